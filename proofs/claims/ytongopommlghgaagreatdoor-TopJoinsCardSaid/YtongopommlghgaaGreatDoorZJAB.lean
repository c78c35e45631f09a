/- Part 2. -/
import Derived.Test.YtongopommlghgaaGreatDoorZJAA
import Derived.Deep.RegionHeld3
namespace Go.Proofs.YtongopommlghgaaGreatDoor
set_option maxRecDepth 100000
set_option maxHeartbeats 0
open _root_.Go.Proofs.Tryz
section
section
open Go.RowKit Go.Shelf
theorem ah.nil (w base):ah w base none 0 0 []:=Bb _ _ _ _
theorem ah.base {w base base' n c A l} (h:ah w base A n c l) (hb:base'≤base):ah w base' A n c l:=by
 refine⟨h.1,?_⟩;rcases h.2 with hn|⟨g,cap,cur,hv,h1,rest⟩
 ·exact .inl hn
 ·exact .inr ⟨g,cap,cur,hv,om,rest⟩
theorem ah.keep {w w' base n c A l} (h:ah w base A n c l) (hb:Below w.heap.size w w'):ah w' base A n c l:=own_below h hb (fun g hg=>(ae h g hg).2)
theorem gH.base {w w' base} (h:gH w) (hg:1<base) (hb:Below base w w'):gH w':=fun i hi=>(hb.cell (p:=⟨_,i,none⟩) hg).trans (h i hi)
theorem yc {w W W'} (h:Below w.heap.size w W) (h2:Below W.heap.size W W'):Below w.heap.size w W':=h.trans (h2.mono h.size)
theorem aF {w w' base n c A l} (h:ah w base A n c l) (hb:base≤w.heap.size) (hg:w.grownBy w' (ab A)):Below base w w':=
 (Ae _ w).grown hg hb (fun g e=>(ae h g e).1)
theorem mh {w ops rest o a Q} (hgd:o.guard=none) (s x)
  (ho:o.op= .call {callee:= .builtin .append,args:= #[s,x],argTypes:= #[22,9]})
  (base A n c l) (hs:a.eval s= .slice A n c) (hown:ah w base A n c l)
  (str) (hx:a.eval x= .string str) (hlen:n+str.size≤140737488355328) (hbase:base≤w.heap.size)
  (h:∀A2 c2 w',ah w' base A2 (n+str.size) c2 (l++str.data.toList)→w.grownBy w' (ab A)→wpList prog ops Q rest (a.put o.dst (.slice A2 (n+str.size) c2)) w'):wpList prog ops Q (o::rest) a w:=by
 obtain⟨i0,hi0,hz0,hz1,hz2⟩:=AY KH;refine Lib.wpList_append_own_string (P:=prog) w hgd s x _ _ ho base 5 i0 underlying22 underlying9 hi0 hz0 hz1 hz2 (.slice A n c) n (jX l) hs hown str hx (by unfold maxLen;omega) hlen hbase ?_;intro v' w' h2 h3 _;obtain⟨A2,c2,rfl,_⟩:=EK h2;rw[ic]at h3;refine h A2 c2 w' ?_ h3;have e:jX l++Lib.strCells str=jX (l++str.data.toList):=by rw[jG];rfl
 rw[e]at h2;exact h2
theorem fQ (A n c B l w) (hv:aY w B A n c l) (hB:B≤w.heap.size) (hl:n≤140737488355232):
  Calls prog 164 #[.slice A n c] w fun e w'=>∃A3 c3,e= .returned (.slice A3 n c3)∧ah w' w.heap.size A3 n c3 l∧Below w.heap.size w w':=by
 have hlc:=hv.1;have hcm:=hv.2.1;unfold maxLen at hcm;have Hv:=Al hv;have hn:=Al hv.len;clear hv;have qT:∀(w:World) (a:Option Addr) (n c n' c':Nat),(binOp .eql 22 (.slice a n c) (.slice none n' c')).run prog w= .ok (.bool a.isNone) w:=fun w a n c n' c'=>Lib.run_eql_slice_nil w _ _ a n c n' c' underlying22
 cases A with
 |none=>
  have h0:n=0:=by
   rcases lY n with h|h
   ·exact h
   ·obtain⟨b,off,e,_⟩:=Hv.1.2.2.2 h;cases e
  subst h0;obtain rfl:l=[]:=qU hn.1.symm;go_enter func164,ntmps164;go_wp2;go_ret;exact⟨none,0,rfl,ah.nil _ _,Ae _ _⟩
 |some a=>
  go_enter func164,ntmps164;go_wp2_with (at_builtin;refine eB rfl (.tmp 5) (.tmp 6) rfl w.heap.size _ _ _ [] rfl (ah.made w _ Aj) B _ _ _ l rfl (Rd.alloc Hv.1 hB _) om Ah ?_;intro A2 c2 w1 hown1 hgrow1 U3;have hb1:Below w.heap.size w w1:=((Ae _ w).alloc Aj _).grown hgrow1 Ah (by simp[ab]));rw[AB,bO]at hown1;go_ret;exact⟨A2,c2,rfl,hown1,hb1⟩
def Wr.str (d:List UInt8):List UInt8:=Vi.enc d.length++d
def Wr.frame (id:UInt8) (d:List UInt8):List UInt8:=bP.app (id::Wr.str d)
theorem Wr.rE (d) (h:d.length≤140737488355328):(Wr.str d).length≤d.length+10:=by
 have:=Vi.bF d.length om;unfold Wr.str;rw[La];omega
theorem jY (A n c base l s w) (ho:ah w base A n c l) (hB:base≤w.heap.size) (hn:n+s.size≤140737488354000):
  Calls prog 146 #[.slice A n c,.string s] w fun e w'=>∃A3 n3 c3,e= .returned (.slice A3 n3 c3)∧ah w' base A3 n3 c3 (l++Wr.str s.data.toList)∧Below base w w':=by
 have Ho:=Al ho;have hlen:=Al ho.len;have hs:s.size≤140737488354000:=om;have hel:=Al (Vi.bF s.size om);have hst:Kept (Wr.str s.data.toList=Vi.enc s.size++s.data.toList):=⟨by unfold Wr.str;simp⟩
 clear ho;go_enter func146,ntmps146;go_wp2_with (first
  |(go_at_call 145;refine(di _ _ _ base s.size l _ Ho.1 hB om om).mono ?_;rintro e w1 ⟨A1,n1,c1,rfl,ho1,hg1,-⟩;have hn1:n1≤n+10:=(by have h1:=ho1.len;have h2:=hel.1;have h3:=hlen.1;simp at h1;omega);have O1:=Al ho1;have b1:=aF Ho.1 hB hg1;have z1:=b1.size;clear ho1 hg1)
  |(at_builtin;refine mh rfl (.tmp 9) (.tmp 10) rfl base _ _ _ _ rfl O1.1 s rfl om om ?_;intro A4 c4 w4 au af))
 go_ret;refine⟨A4,_,c4,rfl,?_,b1.trans (aF O1.1 om af)⟩;rw[hst.1,←Af];exact au
end
end
section
section
open Go.RowKit Go.Shelf
theorem bP.jg (l):(bP.app l).length=l.length+4:=by simp[bP.app,bP.four]
theorem Wr.lq (id d) (h:d.length≤140737488355328):(Wr.frame id d).length≤d.length+15:=by
 have:=Wr.rE d h;unfold Wr.frame;rw[bP.jg,Lc];omega
end
end
section
section
open Go.RowKit Go.Shelf
theorem ak (w:World) (a v):w.grownBy (w.setCell a v) (some a.block):=
 ⟨rfl,rfl,rfl,Ah,fun k _ hne=>AQ w a v k (fun e=>hne (by rw[e]))⟩
def aK (w:World) (p:Nat) (l:List UInt8) (at_:Nat) (e:Int):Prop:=
 ∃A n c,w.heap[p]? =some (.cells #[.slice A n c,.int .i64 (at_:Int),.int .i64 e] 270 (0,0))∧aY w p A n c l∧n≤140737488354000∧at_≤n
theorem aK.lt {w p at_ l e} (h:aK w p l at_ e):p<w.heap.size:=by
 obtain⟨A,n,c,h,_⟩:=h;exact(Ge.1 h).1
theorem aK.len {w p at_ l e} (h:aK w p l at_ e):l.length≤140737488354000∧at_≤l.length:=by
 obtain⟨A,n,c,_,h,h2,h3⟩:=h;have:=h.len;omega
theorem aK.below {w w' p at_ l e} (h:aK w p l at_ e) {B} (hb:Below B w w') (hB:p<B):aK w' p l at_ e:=by
 obtain⟨A,n,c,h1,h2,h3,h4⟩:=h;exact⟨A,n,c,(hb.block p hB).trans h1,aY.below h2 (hb.mono om),h3,h4⟩
theorem aK.move {w p at_ l e} (h:aK w p l at_ e) (a) (ha:a≤l.length):aK (w.setCell ⟨p,1,none⟩ (.int .i64 (a:Int))) p l a e:=by
 obtain⟨A,n,c,h1,h2,h3,h4⟩:=h;exact⟨A,n,c,by rw[Ag w p 1 _ _ _ h1];rfl,h2.setCell (p:=⟨p,1,none⟩) Aj _,h3,by have:=h2.len;omega⟩
theorem aK.fail {w p at_ l e} (h:aK w p l at_ e) (f):aK (w.setCell ⟨p,2,none⟩ (.int .i64 f)) p l at_ f:=by
 obtain⟨A,n,c,h1,h2,h3,h4⟩:=h;exact⟨A,n,c,by rw[Ag w p 2 _ _ _ h1];rfl,h2.setCell (p:=⟨p,2,none⟩) Aj _,h3,h4⟩
theorem aK.cells {w p at_ l e} (h:aK w p l at_ e):∃A n c,w.cell? ⟨p,0,none⟩=some (.slice A n c)∧w.cell? ⟨p,1,none⟩=some (.int .i64 (at_:Int))∧w.cell? ⟨p,2,none⟩=some (.int .i64 e)∧
  w.frozen? ⟨p,1,none⟩=false∧w.frozen? ⟨p,2,none⟩=false∧aY w p A n c l∧n≤140737488354000∧at_≤n∧n≤c∧c≤9223372036854775807:=by
 obtain⟨A,n,c,h1,h2,h3,h4⟩:=h;have hc:=h2.2.1;unfold maxLen at hc;exact⟨A,n,c,Co _ _ _ _ _ _ h1,Co _ _ _ _ _ _ h1,Co _ _ _ _ _ _ h1,Fr _ _ _ _ _ h1,Fr _ _ _ _ _ h1,h2,h3,h4,h2.1,om⟩
theorem ay (p at_ l e w) (h:aK w p l at_ e):Calls prog 120 #[.pointer (some ⟨p,0,none⟩)] w fun r w'=>r= .returned (.int .i64 e)∧w=w':=by
 obtain⟨A,n,c,c0,c1,c2,f1,f2,hr,h3,h4,h5,h6⟩:=h.cells;clear h hr;go_enter func120,ntmps120;go_wp2;go_ret;exact⟨rfl,rfl⟩
theorem iX (p at_ l e w) (h:aK w p l at_ e):Calls prog 112 #[.pointer (some ⟨p,0,none⟩)] w fun r w'=>r= .returned (.int .i64 (at_:Int))∧w=w':=by
 obtain⟨A,n,c,c0,c1,c2,f1,f2,hr,h3,h4,h5,h6⟩:=h.cells;clear h hr;go_enter func112,ntmps112;go_wp2;go_ret;exact⟨rfl,rfl⟩
theorem jh (p at_ l e a w) (h:aK w p l at_ e) (h0:0≤a) (h1:a≤9223372036854775807):Calls prog 167 #[.pointer (some ⟨p,0,none⟩),.int .i64 a] w fun r w'=>r= .returned (.int .i64 ((l.length:Int)-a))∧w=w':=by
 obtain⟨A,n,c,c0,c1,c2,f1,f2,hr,h3,h4,h5,h6⟩:=h.cells;have hl:=Al hr.len;clear h hr;go_enter func167,ntmps167;go_wp2;go_ret;exact⟨by rw[←hl.1];rfl,rfl⟩
theorem dm (p at_ l e f w) (h:aK w p l at_ e):Calls prog 114 #[.pointer (some ⟨p,0,none⟩),.int .i64 f] w fun r w'=>r= .returned (.tuple #[])∧aK w' p l at_ (if e=0 then f else e)∧w.grownBy w' (some p):=by
 obtain⟨A,n,c,c0,c1,c2,f1,f2,hr,h3,h4,h5,h6⟩:=h.cells;have H:=Al h;clear h hr;by_cases he:e=0
 ·subst he;go_enter func114,ntmps114;go_wp2;go_end0;exact⟨rfl,H.1.fail f,ak w ⟨p,2,none⟩ _⟩
 ·have yg:(e==0)=false:=by simpa using he
  have hif:Kept ((if e=0 then f else e)=e):=⟨Ng he⟩
  rw[hif.1];clear he;go_enter func114,ntmps114;go_wp2;go_end0;exact⟨rfl,H.1,Ci _ _⟩
def Wr.fin (l:List UInt8) (at_:Nat) (e:Int):Int:=if e≠0 then e else if at_<l.length then 4 else 0
theorem gV (p at_ l e w) (h:aK w p l at_ e):Calls prog 117 #[.pointer (some ⟨p,0,none⟩)] w fun r w'=>r= .returned (.int .i64 (Wr.fin l at_ e))∧w=w':=by
 obtain⟨A,n,c,c0,c1,c2,f1,f2,hr,h3,h4,h5,h6⟩:=h.cells;have H:=Al h;have hl:=Al hr.len;clear h hr;by_cases he:e=0
 ·subst he;have hfin:Kept (Wr.fin l at_ 0=if at_<l.length then 4 else 0):=⟨by unfold Wr.fin;rw[Ng Ah]⟩
  have h7:Kept (((l.length:Int)-(at_:Int))=(n:Int)-(at_:Int)):=⟨by rw[←hl.1]⟩
  by_cases hlt:at_<n
  ·have hlt':(at_:Int)< (n:Int):=by omega
   go_enter func117,ntmps117;go_wp2_with (first
    |(go_at_call 120;refine(ay _ _ _ _ _ H.1).mono ?_;rintro r w1 ⟨rfl,rfl⟩)
    |(go_at_call 167;refine(jh _ _ _ _ _ _ H.1 om om).mono ?_;rintro r w1 ⟨rfl,rfl⟩;rw[h7.1]))
   go_ret;exact⟨by rw[hfin.1,Ps0 (by rw[←hl.1];exact hlt)];rfl,rfl⟩
  ·obtain rfl:at_=n:=by omega
   go_enter func117,ntmps117;go_wp2_with (first
    |(go_at_call 120;refine(ay _ _ _ _ _ H.1).mono ?_;rintro r w1 ⟨rfl,rfl⟩)
    |(go_at_call 167;refine(jh _ _ _ _ _ _ H.1 om om).mono ?_;rintro r w1 ⟨rfl,rfl⟩;rw[h7.1]))
   go_ret;exact⟨by rw[hfin.1,Ng (by rw[←hl.1];omega)];rfl,rfl⟩
 ·have yg:(e==0)=false:=by simpa using he
  have hen:(e !=0)=true:=by simpa using he
  have hfin:Kept (Wr.fin l at_ e=e):=⟨by unfold Wr.fin;rw[Ps0 he]⟩
  clear he;go_enter func117,ntmps117;go_wp2_with (go_at_call 120;refine(ay _ _ _ _ _ H.1).mono ?_;rintro r w1 ⟨rfl,rfl⟩);go_ret;exact⟨by rw[hfin.1];rfl,rfl⟩
end
end
section
section
open Go.RowKit Go.Shelf
theorem dK (A n c B l w) (hv:aY w B A n c l) (hB:B≤w.heap.size) (hn:n≤140737488354000):
  Calls prog 110 #[.slice A n c] w fun r w'=>∃p,r= .returned (.pointer (some ⟨p,0,none⟩))∧w.heap.size≤p∧p<w'.heap.size∧aK w' p l 0 0∧Below w.heap.size w w':=by
 have Hv:=Al hv;have hlc:=hv.1;clear hv;go_enter func110,ntmps110;go_wp2_with (go_at_call 164;refine(fQ _ _ _ B l _ Hv.1 hB om).mono ?_;rintro e w1 ⟨A1,c1,rfl,ho,hb⟩);go_ret;have hz:=hb.size;exact⟨w1.heap.size,rfl,hz,Ah,⟨A1,n,c1,Aw w1 _,ho.rd.alloc Aj _,hn,bf _⟩,hb.alloc hz _⟩
theorem yh (p at_ l e F w) (h:aK w p l at_ e) (he:e≠0):
  Calls prog 227 #[.pointer (some ⟨p,0,none⟩),F] w fun r w'=>r= .returned (.int .u64 0)∧w=w':=by
 have H:=Al h;have yg:(e==0)=false:=by simpa using he
 have hen:(e !=0)=true:=by simpa using he
 clear h he;go_enter func227,ntmps227;go_wp2_with (go_at_call 120;refine(ay _ _ _ _ _ H.1).mono ?_;rintro r w1 ⟨rfl,rfl⟩);go_ret;exact⟨rfl,rfl⟩
theorem yj (p at_ bD:Nat) (l tt er c1 c2 w) (R:World→Prop) (h:aK w p l at_ 0) (he:er≠0)
  (hent:∀args w,(callFunc bD args).run prog w= .ok (.enter bD args) w)
  (hf:Calls prog bD #[.int .i64 (at_:Int),c1,c2] w fun r w'=>(∃V,r= .returned (.tuple #[V,.int .i64 tt,.int .i64 er]))∧R w') (hR:∀w',R w'→aK w' p l at_ 0):
  Calls prog 227 #[.pointer (some ⟨p,0,none⟩),.func (.func bD) #[] #[c1,c2]] w fun r w'=>r= .returned (.int .u64 0)∧∃w1,R w1∧w'=w1.setCell ⟨p,2,none⟩ (.int .i64 er):=by
 obtain⟨A,n,c,k0,k1,k2,f1,f2,hr,h3,h4,h5,h6⟩:=h.cells;have H:=Al h;have HF:=Al hf;have HR:=Al hR;have yg:(er==0)=false:=by simpa using he
 have hen:(er !=0)=true:=by simpa using he
 clear h he hr hf hR;go_enter func227,ntmps227;go_wp2_with (go_at_call 120;refine(ay _ _ _ _ _ H.1).mono ?_;rintro r w1 ⟨rfl,rfl⟩);refine HF.1.mono ?_;rintro r w1 ⟨⟨V,rfl⟩,hw1⟩;obtain⟨A',n',c',j0,j1,j2,g1,g2,-⟩:=(HR.1 _ hw1).cells;have HW:=Al hw1;clear k0 k1 k2 f1 f2 hw1;go_wp2;go_ret;exact⟨rfl,w1,HW.1,rfl⟩
theorem ER (p at_ bD:Nat) (l tt c1 c2 w) (R:Value→World→Prop) (h:aK w p l at_ 0)
  (hent:∀args w,(callFunc bD args).run prog w= .ok (.enter bD args) w)
  (hf:Calls prog bD #[.int .i64 (at_:Int),c1,c2] w fun r w'=>∃V,r= .returned (.tuple #[V,.int .i64 tt,.int .i64 0])∧R V w') (hR:∀V w',R V w'→aK w' p l at_ 0):
  Calls prog 227 #[.pointer (some ⟨p,0,none⟩),.func (.func bD) #[] #[c1,c2]] w fun r w'=>∃V,r= .returned V∧∃w1,R V w1∧w'=w1.setCell ⟨p,1,none⟩ (.int .i64 tt):=by
 obtain⟨A,n,c,k0,k1,k2,f1,f2,hr,h3,h4,h5,h6⟩:=h.cells;have H:=Al h;have HF:=Al hf;have HR:=Al hR;clear h hr hf hR;go_enter func227,ntmps227;go_wp2_with (go_at_call 120;refine(ay _ _ _ _ _ H.1).mono ?_;rintro r w1 ⟨rfl,rfl⟩);refine HF.1.mono ?_;rintro r w1 ⟨V,rfl,hw1⟩;obtain⟨A',n',c',j0,j1,j2,g1,g2,-⟩:=(HR.1 _ _ hw1).cells;have HW:=Al hw1;clear k0 k1 k2 f1 f2 hw1;go_wp2;go_ret;exact⟨V,rfl,w1,HW.1,rfl⟩
theorem nE (p at_ l e F w) (h:aK w p l at_ e) (he:e≠0):
  Calls prog 165 #[.pointer (some ⟨p,0,none⟩),F] w fun r w'=>r= .returned (.slice none 0 0)∧w=w':=by
 have H:=Al h;have yg:(e==0)=false:=by simpa using he
 have hen:(e !=0)=true:=by simpa using he
 clear h he;go_enter func165,ntmps165;go_wp2_with (go_at_call 120;refine(ay _ _ _ _ _ H.1).mono ?_;rintro r w1 ⟨rfl,rfl⟩);go_ret;exact⟨rfl,rfl⟩
theorem nG (p at_ bD:Nat) (l tt er c1 c2 w) (R:World→Prop) (h:aK w p l at_ 0) (he:er≠0)
  (hent:∀args w,(callFunc bD args).run prog w= .ok (.enter bD args) w)
  (hf:Calls prog bD #[.int .i64 (at_:Int),c1,c2] w fun r w'=>(∃V,r= .returned (.tuple #[V,.int .i64 tt,.int .i64 er]))∧R w') (hR:∀w',R w'→aK w' p l at_ 0):
  Calls prog 165 #[.pointer (some ⟨p,0,none⟩),.func (.func bD) #[] #[c1,c2]] w fun r w'=>r= .returned (.slice none 0 0)∧∃w1,R w1∧w'=w1.setCell ⟨p,2,none⟩ (.int .i64 er):=by
 obtain⟨A,n,c,k0,k1,k2,f1,f2,hr,h3,h4,h5,h6⟩:=h.cells;have H:=Al h;have HF:=Al hf;have HR:=Al hR;have yg:(er==0)=false:=by simpa using he
 have hen:(er !=0)=true:=by simpa using he
 clear h he hr hf hR;go_enter func165,ntmps165;go_wp2_with (go_at_call 120;refine(ay _ _ _ _ _ H.1).mono ?_;rintro r w1 ⟨rfl,rfl⟩);refine HF.1.mono ?_;rintro r w1 ⟨⟨V,rfl⟩,hw1⟩;obtain⟨A',n',c',j0,j1,j2,g1,g2,-⟩:=(HR.1 _ hw1).cells;have HW:=Al hw1;clear k0 k1 k2 f1 f2 hw1;go_wp2;go_ret;exact⟨rfl,w1,HW.1,rfl⟩
theorem qy (p at_ bD:Nat) (l tt c1 c2 w) (R:Value→World→Prop) (h:aK w p l at_ 0)
  (hent:∀args w,(callFunc bD args).run prog w= .ok (.enter bD args) w)
  (hf:Calls prog bD #[.int .i64 (at_:Int),c1,c2] w fun r w'=>∃V,r= .returned (.tuple #[V,.int .i64 tt,.int .i64 0])∧R V w') (hR:∀V w',R V w'→aK w' p l at_ 0):
  Calls prog 165 #[.pointer (some ⟨p,0,none⟩),.func (.func bD) #[] #[c1,c2]] w fun r w'=>∃V,r= .returned V∧∃w1,R V w1∧w'=w1.setCell ⟨p,1,none⟩ (.int .i64 tt):=by
 obtain⟨A,n,c,k0,k1,k2,f1,f2,hr,h3,h4,h5,h6⟩:=h.cells;have H:=Al h;have HF:=Al hf;have HR:=Al hR;clear h hr hf hR;go_enter func165,ntmps165;go_wp2_with (go_at_call 120;refine(ay _ _ _ _ _ H.1).mono ?_;rintro r w1 ⟨rfl,rfl⟩);refine HF.1.mono ?_;rintro r w1 ⟨V,rfl,hw1⟩;obtain⟨A',n',c',j0,j1,j2,g1,g2,-⟩:=(HR.1 _ _ hw1).cells;have HW:=Al hw1;clear k0 k1 k2 f1 f2 hw1;go_wp2;go_ret;exact⟨V,rfl,w1,HW.1,rfl⟩
theorem sG (p at_ l e F w) (h:aK w p l at_ e) (he:e≠0):
  Calls prog 169 #[.pointer (some ⟨p,0,none⟩),F] w fun r w'=>r= .returned (.string ⟨#[]⟩)∧w=w':=by
 have H:=Al h;have yg:(e==0)=false:=by simpa using he
 have hen:(e !=0)=true:=by simpa using he
 clear h he;go_enter func169,ntmps169;go_wp2_with (go_at_call 120;refine(ay _ _ _ _ _ H.1).mono ?_;rintro r w1 ⟨rfl,rfl⟩);go_ret;exact⟨rfl,rfl⟩
theorem sH (p at_ bD:Nat) (l tt er c1 c2 w) (R:World→Prop) (h:aK w p l at_ 0) (he:er≠0)
  (hent:∀args w,(callFunc bD args).run prog w= .ok (.enter bD args) w)
  (hf:Calls prog bD #[.int .i64 (at_:Int),c1,c2] w fun r w'=>(∃V,r= .returned (.tuple #[V,.int .i64 tt,.int .i64 er]))∧R w') (hR:∀w',R w'→aK w' p l at_ 0):
  Calls prog 169 #[.pointer (some ⟨p,0,none⟩),.func (.func bD) #[] #[c1,c2]] w fun r w'=>r= .returned (.string ⟨#[]⟩)∧∃w1,R w1∧w'=w1.setCell ⟨p,2,none⟩ (.int .i64 er):=by
 obtain⟨A,n,c,k0,k1,k2,f1,f2,hr,h3,h4,h5,h6⟩:=h.cells;have H:=Al h;have HF:=Al hf;have HR:=Al hR;have yg:(er==0)=false:=by simpa using he
 have hen:(er !=0)=true:=by simpa using he
 clear h he hr hf hR;go_enter func169,ntmps169;go_wp2_with (go_at_call 120;refine(ay _ _ _ _ _ H.1).mono ?_;rintro r w1 ⟨rfl,rfl⟩);refine HF.1.mono ?_;rintro r w1 ⟨⟨V,rfl⟩,hw1⟩;obtain⟨A',n',c',j0,j1,j2,g1,g2,-⟩:=(HR.1 _ hw1).cells;have HW:=Al hw1;clear k0 k1 k2 f1 f2 hw1;go_wp2;go_ret;exact⟨rfl,w1,HW.1,rfl⟩
theorem vK (p at_ bD:Nat) (l tt c1 c2 w) (R:Value→World→Prop) (h:aK w p l at_ 0)
  (hent:∀args w,(callFunc bD args).run prog w= .ok (.enter bD args) w)
  (hf:Calls prog bD #[.int .i64 (at_:Int),c1,c2] w fun r w'=>∃V,r= .returned (.tuple #[V,.int .i64 tt,.int .i64 0])∧R V w') (hR:∀V w',R V w'→aK w' p l at_ 0):
  Calls prog 169 #[.pointer (some ⟨p,0,none⟩),.func (.func bD) #[] #[c1,c2]] w fun r w'=>∃V,r= .returned V∧∃w1,R V w1∧w'=w1.setCell ⟨p,1,none⟩ (.int .i64 tt):=by
 obtain⟨A,n,c,k0,k1,k2,f1,f2,hr,h3,h4,h5,h6⟩:=h.cells;have H:=Al h;have HF:=Al hf;have HR:=Al hR;clear h hr hf hR;go_enter func169,ntmps169;go_wp2_with (go_at_call 120;refine(ay _ _ _ _ _ H.1).mono ?_;rintro r w1 ⟨rfl,rfl⟩);refine HF.1.mono ?_;rintro r w1 ⟨V,rfl,hw1⟩;obtain⟨A',n',c',j0,j1,j2,g1,g2,-⟩:=(HR.1 _ _ hw1).cells;have HW:=Al hw1;clear k0 k1 k2 f1 f2 hw1;go_wp2;go_ret;exact⟨V,rfl,w1,HW.1,rfl⟩
end
end
section
section
open Go.RowKit Go.Shelf
def Wr.uint (l:List UInt8) (a:Nat) (e:Int) (most:Nat):Nat×Nat×Int:=
 if e≠0 then(0,a,e)else
  let r:=Vi.get l (a:Int)
  if r.2.2≠0 then(0,a,(r.2.2:Int))else if most<r.1 then(0,a,7)else(r.1,r.2.1.toNat,0)
theorem aK.box {w p a l e} (h:aK w p l a e) (o):aK (w.alloc o) p l a e:=h.below ((Ae _ w).alloc Aj o) h.lt
end
end
section
section
open Go.RowKit Go.Shelf
theorem Vi.iY {l} {a x:Nat} {t} (h:Vi.get l (a:Int)=(x,t,0)):(a:Int)<t∧t≤l.length:=by
 unfold Vi.get at h;by_cases hc:(a:Int)<0∨(l.length:Int)<a
 ·rw[Ps0 hc]at h;cases h
 ·rw[Ng hc]at h;have key:∀(r:List UInt8) (i y:Nat),(Vi.fP r i y).2.2=0→i< (Vi.fP r i y).2.1∧(Vi.fP r i y).2.1≤i+r.length:=by
   intro r
   induction r with
   |nil=>intro i y h;cases h
   |cons c r ih=>
    intro i y;rw[Vi.bZ];split
    ·intro h;cases h
    ·split
     ·intro h;cases h
     ·split
      ·intro _;simp
      ·intro h;have:=ih _ _ h;simp;omega
  have k:=key (l.drop (a:Int).toNat) 0 0;revert h k;generalize Vi.fP (l.drop (a:Int).toNat) 0 0=q;intro h k;simp only at h;by_cases hq:q.2.2=0
  ·rw[Ps0 hq]at h;have:=k hq;simp only[kz,lZ]at this;cases h;omega
  ·rw[Ng hq]at h;simp only[aA]at h;exact absurd h.2.2 hq
theorem Nj (p a bx bm m:Nat) (l e w) (h:aK w p l a e) (hb:w.cell? ⟨bx,0,none⟩=some (.pointer (some ⟨p,0,none⟩))) (hm:w.cell? ⟨bm,0,none⟩=some (.int .u64 (m:Int))):
  Calls prog 228 #[.int .i64 (a:Int),.pointer (some ⟨bx,0,none⟩),.pointer (some ⟨bm,0,none⟩)] w fun r w'=>r= .returned (.tuple #[.int .u64 ((Vi.get l (a:Int)).1:Int),.int .i64 (Vi.get l (a:Int)).2.1,
   .int .i64 (if(Vi.get l (a:Int)).2.2=0∧m< (Vi.get l (a:Int)).1 then 7 else((Vi.get l (a:Int)).2.2:Int))])∧w=w':=by
 obtain⟨A,n,c,k0,k1,k2,f1,f2,hr,h3,h4,h5,h6⟩:=h.cells;have HG:=Al (rC A n c p l (a:Int) w hr om om);clear h hr;obtain⟨r,hr⟩:∃r,Vi.get l (a:Int)=r:=⟨_,rfl⟩
 rw[hr]at HG⊢;obtain⟨x,t,er⟩:=r;unfold IU at HG;simp only at HG⊢;clear hr;by_cases h0:er=0
 ·subst h0;by_cases hx:m<x
  ·rw[Ps0 ⟨rfl,hx⟩];have hx':(m:Int)< (x:Int):=om;go_enter func228,ntmps228;go_wp2_with (go_at_call 118;refine HG.1.mono ?_;rintro r w1 ⟨rfl,rfl⟩);go_ret3;exact⟨rfl,rfl⟩
  ·rw[Ng (fun h=>hx h.2)];have hx':(x:Int)≤(m:Int):=om;go_enter func228,ntmps228;go_wp2_with (go_at_call 118;refine HG.1.mono ?_;rintro r w1 ⟨rfl,rfl⟩);go_ret3;exact⟨rfl,rfl⟩
 ·rw[Ng (fun h=>h0 h.1)];have h0':((er:Int)==0)=false:=by simp;omega
  clear h0;go_enter func228,ntmps228;go_wp2_with (go_at_call 118;refine HG.1.mono ?_;rintro r w1 ⟨rfl,rfl⟩);go_ret3;exact⟨rfl,rfl⟩
theorem ji (p a m:Nat) (l e w) (h:aK w p l a e):
  Calls prog 182 #[.pointer (some ⟨p,0,none⟩),.int .u64 (m:Int)] w fun r w'=>r= .returned (.int .u64 ((Wr.uint l a e m).1:Int))∧aK w' p l (Wr.uint l a e m).2.1 (Wr.uint l a e m).2.2∧w.grownBy w' (some p):=by
 have bb:=((Bo w 203 (.pointer (some ⟨p,0,none⟩))).alloc (.cells #[.int .u64 (m:Int)] 125)).cell;have bm:=(Bo (w.alloc (.cells #[.pointer (some ⟨p,0,none⟩)] 203)) 125 (.int .u64 (m:Int))).cell;have H:=Al ((h.box (.cells #[.pointer (some ⟨p,0,none⟩)] 203)).box (.cells #[.int .u64 (m:Int)] 125));have g0:w.grownBy ((w.alloc (.cells #[.pointer (some ⟨p,0,none⟩)] 203)).alloc (.cells #[.int .u64 (m:Int)] 125)) (some p):=(Ga _ _ _).trans (Ga _ _ _);rw[AV]at bm;have hU:=Nj p a w.heap.size (w.heap.size+1) m l e _ H.1 bb bm;obtain⟨W2,hW2⟩:∃W2,W2=(w.alloc (.cells #[.pointer (some ⟨p,0,none⟩)] 203)).alloc (.cells #[.int .u64 (m:Int)] 125):=⟨_,rfl⟩
 have hlen:=h.len;by_cases he:e=0
 ·subst he;obtain⟨r,hr⟩:∃r,Vi.get l (a:Int)=r:=⟨_,rfl⟩
  have hto:=fun x t (hh:r=(x,t,0))=>Vi.iY (hr.trans hh)
  have hm:Wr.uint l a 0 m=if r.2.2≠0 then(0,a,(r.2.2:Int))else if m<r.1 then(0,a,7)else(r.1,r.2.1.toNat,0):=by
   unfold Wr.uint;rw[Ng Ah,hr]
  rw[hm];rw[hr]at hU;obtain⟨x,t,er⟩:=r;simp only at hU⊢;by_cases hbad:(if er=0∧m<x then(7:Int)else(er:Int))=0
  ·have h00:er=0:=by
    by_cases h:er=0
    ·exact h
    ·rw[Ng (fun hh=>h hh.1)]at hbad;omega
   subst h00;have hx:¬m<x:=fun hh=>by rw[Ps0 ⟨rfl,hh⟩]at hbad;omega
   have ht:=hto x t rfl;rw[Ng Ah,Ng hx];rw[Ng (fun hh=>hx hh.2)]at hU;have HF:=Al (ER p a 228 l t (.pointer (some ⟨w.heap.size,0,none⟩)) (.pointer (some ⟨w.heap.size+1,0,none⟩)) _ (fun V w'=>V= .int .u64 (x:Int)∧w'=W2) H.1
    (BR func228 kr rfl) (hU.mono fun r w' ⟨h1,h2⟩=>⟨_,h1,rfl,by rw[hW2,h2]⟩) (fun V w' ⟨_,h⟩=>by rw[h,hW2];exact H.1))
   have G0:=Al g0;have HW2:=Al hW2;have ht1:((t.toNat:Nat):Int)=t:=om;have HM:=Al (H.1.move t.toNat om);rw[ht1]at HM;clear h g0 hm bb bm hU hto hr hW2 ht1;go_enter func182,ntmps182;go_wp2_with (go_at_call 227;refine HF.1.mono ?_;rintro r w1 ⟨V,rfl,w2,⟨rfl,rfl⟩,rfl⟩;rw[HW2.1]);go_ret;exact⟨rfl,HM.1,G0.1.trans (ak _ ⟨p,1,none⟩ _)⟩
  ·have hres:(if er≠0 then(0,a,(er:Int))else if m<x then(0,a,7)else(x,t.toNat,0):Nat×Nat×Int)=(0,a,if er=0∧m<x then(7:Int)else(er:Int)):=by
    by_cases h:er=0
    ·subst h;by_cases hx:m<x
     ·rw[Ng Ah,Ps0 hx,Ps0 ⟨rfl,hx⟩]
     ·rw[Ng (fun hh=>hx hh.2)]at hbad;exact absurd rfl hbad
    ·rw[Ps0 h,Ng (fun hh=>h hh.1)]
   rw[hres];clear hres hm;generalize (if er=0∧m<x then(7:Int)else(er:Int))=f at*;have HF:=Al (yj p a 228 l t f (.pointer (some ⟨w.heap.size,0,none⟩)) (.pointer (some ⟨w.heap.size+1,0,none⟩)) _ (fun w'=>w'=W2) H.1 hbad
    (BR func228 kr rfl) (hU.mono fun r w' ⟨h1,h2⟩=>⟨⟨_,h1⟩,by rw[hW2,h2]⟩) (fun w' h=>by rw[h,hW2];exact H.1))
   have G0:=Al g0;have HW2:=Al hW2;clear h g0 bb bm hU hto hr hW2 hbad;go_enter func182,ntmps182;go_wp2_with (go_at_call 227;refine HF.1.mono ?_;rintro r w1 ⟨rfl,w2,rfl,rfl⟩;rw[HW2.1]);go_ret;exact⟨rfl,H.1.fail f,G0.1.trans (ak _ ⟨p,2,none⟩ _)⟩
 ·have hm:Wr.uint l a e m=(0,a,e):=by unfold Wr.uint;rw[Ps0 he]
  rw[hm];have HF:=Al (yh p a l e (.func (.func 228) #[] #[.pointer (some ⟨w.heap.size,0,none⟩),.pointer (some ⟨w.heap.size+1,0,none⟩)]) _ H.1 he);have G0:=Al g0;clear h g0 hm bb bm he hU hW2;go_enter func182,ntmps182;go_wp2_with (go_at_call 227;refine HF.1.mono ?_;rintro r w1 ⟨rfl,rfl⟩);go_ret;exact⟨rfl,H.1,G0.1⟩
end
end
section
section
open Go.RowKit Go.Shelf
def Quiet (w w':World):Prop:=∃n,w'=w.drewN n
theorem Quiet.below {w w'} (h:Quiet w w') (B):Below B w w':=by obtain⟨n,rfl⟩:=h;exact below_drewN (Ae _ _) n
theorem Quiet.grown {w w'} (h:Quiet w w') (row):w.grownBy w' row:=by obtain⟨n,rfl⟩:=h;exact⟨rfl,rfl,rfl,Nr _,fun _ _ _=>rfl⟩
def Wr.take (l:List UInt8) (a:Nat) (e n:Int):List UInt8×Nat×Int:=
 if e≠0 then([],a,e)else if n<0 then([],a,2)else if(l.length:Int)-a<n then([],a,3)else((l.drop a).take n.toNat,a+n.toNat,0)
theorem aY.cut {w B n c A l} (h:aY w B A n c l) {a k} (hk:a+k≤n):aY w B (if c=a then A else A.map (·.add a)) k (c-a) ((l.drop a).take k):=(h.drop om).take om
theorem Nk (_p a bx bn:Nat) (n w) (hn:w.cell? ⟨bn,0,none⟩=some (.int .i64 n)) (h0:n<0):
  Calls prog 168 #[.int .i64 (a:Int),.pointer (some ⟨bn,0,none⟩),.pointer (some ⟨bx,0,none⟩)] w fun r w'=>r= .returned (.tuple #[.slice none 0 0,.int .i64 0,.int .i64 2])∧w=w':=by
 go_enter func168,ntmps168;go_wp2;go_ret3;exact⟨rfl,rfl⟩
theorem Nl (p a bx bn l e n w) (h:aK w p l a e) (hb:w.cell? ⟨bx,0,none⟩=some (.pointer (some ⟨p,0,none⟩))) (hn:w.cell? ⟨bn,0,none⟩=some (.int .i64 n)) (h0:0≤n) (h1:(l.length:Int)-a<n):
  Calls prog 168 #[.int .i64 (a:Int),.pointer (some ⟨bn,0,none⟩),.pointer (some ⟨bx,0,none⟩)] w fun r w'=>r= .returned (.tuple #[.slice none 0 0,.int .i64 0,.int .i64 3])∧Quiet w w':=by
 have HL:=Al (fun W (hW:aK W p l a e)=>jh p a l e (a:Int) W hW om (by have:=h.len;omega));have H:=Al h;clear h;go_enter func168,ntmps168;go_wp2_with fail;go_region_held3 (fun w'=>w'.cell? ⟨bn,0,none⟩=some (.int .i64 n)∧w'.cell? ⟨bx,0,none⟩=some (.pointer (some ⟨p,0,none⟩))) (first|exact⟨hn,hb⟩)
  ((go_at_call 167;refine(HL.1 _ (by exact H.1)).mono ?_;rintro r w1 ⟨rfl,rfl⟩))
 go_wp2;go_ret3;exact⟨rfl,1,rfl⟩
theorem Qe (p a bx bn n:Nat) (l e w) (h:aK w p l a e) (hb:w.cell? ⟨bx,0,none⟩=some (.pointer (some ⟨p,0,none⟩))) (hn:w.cell? ⟨bn,0,none⟩=some (.int .i64 (n:Int))) (h1:n≤l.length-a):
  Calls prog 168 #[.int .i64 (a:Int),.pointer (some ⟨bn,0,none⟩),.pointer (some ⟨bx,0,none⟩)] w fun r w'=>∃A3 c3,r= .returned (.tuple #[.slice A3 n c3,.int .i64 ((a:Int)+n),.int .i64 0])∧ah w' w.heap.size A3 n c3 ((l.drop a).take n)∧Below w.heap.size w w':=by
 have HL:=Al (fun W (hW:aK W p l a e)=>jh p a l e (a:Int) W hW om (by have:=h.len;omega));have H:=Al h;have hp:=h.lt;obtain⟨A,m,c,k0,k1,k2,f1,f2,hr,h3,h4,h5,h6⟩:=h.cells;have hl:=Al hr.len;have hnm:a+n≤m:=by have:=hl.1;omega
 have Hc:=Al (hr.cut hnm);have i1:(0:Int)≤(a:Int):=om;have i2:(a:Int)≤(a:Int)+(n:Int):=om;have i3:(a:Int)+(n:Int)≤(m:Int):=om;have i4:(a:Int)+(n:Int)≤(c:Int):=om;have i5:(n:Int)≤(m:Int)-(a:Int):=om;have e1:Kept ((l.length:Int)-(a:Int)=(m:Int)-(a:Int)):=⟨by rw[←hl.1]⟩
 have e2:((a:Int)+(n:Int)).toNat=a+n:=om;have ew:IntKind.i64.wrap ((a:Int)+(n:Int))=(a:Int)+(n:Int):=by rw[AZ];omega
 have hpl:p≤w.heap.size:=om;clear h hr;by_cases XZ:c=a
 ·have hn0:n=0:=by omega
  subst hn0;obtain rfl:m=a:=om;subst XZ;rw[Ps0 rfl,Dz]at Hc;have hn':w.cell? ⟨bn,0,none⟩=some (.int .i64 0):=hn;have hbx:=Bd w _ hb;have hbn:=Bd w _ hn;have e3:Kept ((l.length:Int)-(c:Int)=0):=⟨by have:=hl.1;omega⟩
  clear hn i2 i3 i4 i5 e1 e2 ew hnm h4 h5;have ew:IntKind.i64.wrap (c:Int)=(c:Int):=by rw[AZ];omega
  go_enter func168,ntmps168;go_wp2_with fail;go_region_held3 (fun w'=>w'.cell? ⟨bn,0,none⟩=some (.int .i64 0)∧w'.cell? ⟨bx,0,none⟩=some (.pointer (some ⟨p,0,none⟩))) (first|exact⟨hn',hb⟩)
   ((go_at_call 167;refine(HL.1 _ (by exact H.1)).mono ?_;rintro r w1 ⟨rfl,rfl⟩;rw[e3.1]))
  go_wp2_with fail;go_region_held3 (fun w'=>w'.cell? ⟨bn,0,none⟩=some (.int .i64 0)∧w'.cell? ⟨bx,0,none⟩=some (.pointer (some ⟨p,0,none⟩))∧w'.cell? ⟨p,0,none⟩=some (.slice A c c)) (first|exact⟨hn',hb,k0⟩|exact k9)
   ((go_at_call 164;refine(fQ _ _ _ p ((l.drop c).take 0) _ (by exact Hc.1) (by exact hpl) om).mono ?_;rintro r w1 ⟨A3,c3,rfl,ho,hbl⟩;have k9:w1.cell? ⟨bn,0,none⟩=some (.int .i64 0)∧w1.cell? ⟨bx,0,none⟩=some (.pointer (some ⟨p,0,none⟩))∧w1.cell? ⟨p,0,none⟩=some (.slice A c c):=⟨(hbl.cell (p:=⟨bn,0,none⟩) hbn).trans hn',(hbl.cell (p:=⟨bx,0,none⟩) hbx).trans hb,(hbl.cell (p:=⟨p,0,none⟩) hp).trans k0⟩))
  go_wp2;go_ret3;exact⟨A3,c3,Ah,ho,dJ (dJ hbl)⟩
 ·have akf:(a:Int)< (c:Int):=by omega
  rw[Ng XZ]at Hc;have hbx:=Bd w _ hb;have hbn:=Bd w _ hn;go_enter func168,ntmps168;go_wp2_with fail;go_region_held3 (fun w'=>w'.cell? ⟨bn,0,none⟩=some (.int .i64 (n:Int))∧w'.cell? ⟨bx,0,none⟩=some (.pointer (some ⟨p,0,none⟩))) (first|exact⟨hn,hb⟩)
   ((go_at_call 167;refine(HL.1 _ (by exact H.1)).mono ?_;rintro r w1 ⟨rfl,rfl⟩;rw[e1.1]))
  go_wp2_with fail;go_region_held3 (fun w'=>w'.cell? ⟨bn,0,none⟩=some (.int .i64 (n:Int))∧w'.cell? ⟨bx,0,none⟩=some (.pointer (some ⟨p,0,none⟩))∧w'.cell? ⟨p,0,none⟩=some (.slice A m c)) (first|exact⟨hn,hb,k0⟩|exact k9)
   ((go_at_call 164;refine(fQ _ _ _ p ((l.drop a).take n) _ (by exact Hc.1) (by exact hpl) om).mono ?_;rintro r w1 ⟨A3,c3,rfl,ho,hbl⟩;have k9:w1.cell? ⟨bn,0,none⟩=some (.int .i64 (n:Int))∧w1.cell? ⟨bx,0,none⟩=some (.pointer (some ⟨p,0,none⟩))∧w1.cell? ⟨p,0,none⟩=some (.slice A m c):=⟨(hbl.cell (p:=⟨bn,0,none⟩) hbn).trans hn,(hbl.cell (p:=⟨bx,0,none⟩) hbx).trans hb,(hbl.cell (p:=⟨p,0,none⟩) hp).trans k0⟩))
  go_wp2;go_ret3;exact⟨A3,c3,rfl,ho,dJ (dJ hbl)⟩
theorem below_grown {w w'} (h:Below w.heap.size w w') (row):w.grownBy w' row:=⟨h.os,h.tape,h.output,h.size,fun k hk _=>h.block k hk⟩
theorem ah.far {w base n c A l} (h:ah w base A n c l) {a} (ha:a.block<base) (v):ah (w.setCell a v) base A n c l:=
 h.apart (ak w a v) (fun r e=>by cases e;exact .inl fun e2=>by have:=(ae h _ e2).1;omega)
theorem jk (p a l e n w) (h:aK w p l a e) (hn0: -9223372036854775808≤n) (hn1:n≤9223372036854775807):
  Calls prog 115 #[.pointer (some ⟨p,0,none⟩),.int .i64 n] w fun r w'=>∃A3 n3 c3,r= .returned (.slice A3 n3 c3)∧ah w' w.heap.size A3 n3 c3 (Wr.take l a e n).1∧aK w' p l (Wr.take l a e n).2.1 (Wr.take l a e n).2.2∧w.grownBy w' (some p):=by
 have bb:=((Bo w 203 (.pointer (some ⟨p,0,none⟩))).alloc (.cells #[.int .i64 n] 3)).cell;have bm:=(Bo (w.alloc (.cells #[.pointer (some ⟨p,0,none⟩)] 203)) 3 (.int .i64 n)).cell;have H:=Al ((h.box (.cells #[.pointer (some ⟨p,0,none⟩)] 203)).box (.cells #[.int .i64 n] 3));have g0:w.grownBy ((w.alloc (.cells #[.pointer (some ⟨p,0,none⟩)] 203)).alloc (.cells #[.int .i64 n] 3)) (some p):=(Ga _ _ _).trans (Ga _ _ _);have hz2:((w.alloc (.cells #[.pointer (some ⟨p,0,none⟩)] 203)).alloc (.cells #[.int .i64 n] 3)).heap.size=w.heap.size+1+1:=Ah;rw[AV]at bm;have hp:=h.lt;have hlen:=h.len;obtain⟨W2,hW2⟩:∃W2,W2=(w.alloc (.cells #[.pointer (some ⟨p,0,none⟩)] 203)).alloc (.cells #[.int .i64 n] 3):=⟨_,rfl⟩
 have HW2:=Al hW2;have hbad:∀er:Int,er≠0→(Calls prog 168 #[.int .i64 (a:Int),.pointer (some ⟨w.heap.size+1,0,none⟩),.pointer (some ⟨w.heap.size,0,none⟩)] ((w.alloc (.cells #[.pointer (some ⟨p,0,none⟩)] 203)).alloc (.cells #[.int .i64 n] 3)) fun r w'=>r= .returned (.tuple #[.slice none 0 0,.int .i64 0,.int .i64 er])∧Quiet W2 w')→e=0→
   Calls prog 115 #[.pointer (some ⟨p,0,none⟩),.int .i64 n] w fun r w'=>∃A3 n3 c3,r= .returned (.slice A3 n3 c3)∧ah w' w.heap.size A3 n3 c3 []∧aK w' p l a er∧w.grownBy w' (some p):=by
  intro er her hU he;subst he;have HF:=Al (nG p a 168 l 0 er (.pointer (some ⟨w.heap.size+1,0,none⟩)) (.pointer (some ⟨w.heap.size,0,none⟩)) _ (fun w'=>Quiet W2 w') H.1 her
   (BR func168 kr rfl) (hU.mono fun r w' ⟨h1,h2⟩=>⟨⟨_,h1⟩,h2⟩) (fun w' h=>by rw[hW2]at h;exact H.1.below (h.below (p+1)) om))
  have G0:=Al g0;clear h g0 bb bm hU hW2 her;go_enter func115,ntmps115;go_wp2_with (go_at_call 165;refine HF.1.mono ?_;rintro r w1 ⟨rfl,w2,hq,rfl⟩);go_ret;rw[HW2.1]at hq;exact⟨none,0,0,rfl,ah.nil _ _,(H.1.below (hq.below (p+1)) om).fail er,(G0.1.trans (hq.grown _)).trans (ak _ ⟨p,2,none⟩ _)⟩
 by_cases he:e=0
 ·have he':=he;subst he;by_cases h0:n<0
  ·have hm:Wr.take l a 0 n=([],a,2):=by unfold Wr.take;rw[Ng Ah,Ps0 h0]
   rw[hm];exact hbad 2 Ai ((Nk p a w.heap.size (w.heap.size+1) n _ bm h0).mono fun r w' ⟨h1,h2⟩=>⟨h1,0,by rw[hW2,h2];rfl⟩) rfl
  ·by_cases h1:(l.length:Int)-a<n
   ·have hm:Wr.take l a 0 n=([],a,3):=by unfold Wr.take;rw[Ng Ah,Ng h0,Ps0 h1]
    rw[hm];exact hbad 3 Ai ((Nl p a w.heap.size (w.heap.size+1) l 0 n _ H.1 bb bm om h1).mono fun r w' ⟨h1,h2⟩=>⟨h1,by rw[hW2];exact h2⟩) rfl
   ·clear hbad;have hm:Wr.take l a 0 n=((l.drop a).take n.toNat,a+n.toNat,0):=by unfold Wr.take;rw[Ng Ah,Ng h0,Ng h1]
    rw[hm];obtain⟨k,rfl⟩:=Cr (show 0≤n from om);simp only[lZ]at hm⊢;have HF:=Al (qy p a 168 l ((a:Int)+k) (.pointer (some ⟨w.heap.size+1,0,none⟩)) (.pointer (some ⟨w.heap.size,0,none⟩)) _ (fun V w'=>∃A3 c3,V= .slice A3 k c3∧ah w' W2.heap.size A3 k c3 ((l.drop a).take k)∧Below W2.heap.size W2 w') H.1
     (BR func168 kr rfl) ((Qe p a w.heap.size (w.heap.size+1) k l 0 _ H.1 bb bm om).mono fun r w' ⟨A3,c3,h1,h2,h3⟩=>⟨_,h1,A3,c3,rfl,by rw[hW2];exact h2,by rw[hW2];exact h3⟩)
     (fun V w' ⟨A3,c3,_,_,h⟩=>by rw[hW2]at h;exact H.1.below h (by rw[hz2];omega)))
    have G0:=Al g0;have HM:=Al (show a+k≤l.length from om);have Hz2:=Al hz2;clear h g0 bb bm hW2 hm h0 h1 hz2;go_enter func115,ntmps115;go_wp2_with (go_at_call 165;refine HF.1.mono ?_;rintro r w1 ⟨V,rfl,w2,⟨A3,c3,rfl,ho,hbl⟩,rfl⟩);go_ret;rw[HW2.1]at ho hbl;have hm2:=(H.1.below hbl (by rw[Hz2.1];omega)).move (a+k) HM.1;rw[Hz2.1]at ho;exact⟨A3,k,c3,rfl,(ho.far (by show p<_;omega) _).base om,hm2,(G0.1.trans (below_grown hbl _)).trans (ak _ ⟨p,1,none⟩ _)⟩
 ·have hm:Wr.take l a e n=([],a,e):=by unfold Wr.take;rw[Ps0 he]
  rw[hm];have HF:=Al (nE p a l e (.func (.func 168) #[] #[.pointer (some ⟨w.heap.size+1,0,none⟩),.pointer (some ⟨w.heap.size,0,none⟩)]) _ H.1 he);have G0:=Al g0;clear h g0 hm bb bm he hbad hW2;go_enter func115,ntmps115;go_wp2_with (go_at_call 165;refine HF.1.mono ?_;rintro r w1 ⟨rfl,rfl⟩);go_ret;exact⟨none,0,0,rfl,ah.nil _ _,H.1,G0.1⟩
end
end
section
section
open Go.RowKit Go.Shelf
def Wr.az (l:List UInt8) (r:Nat×Int×Nat) (m:Int):List UInt8×Int×Int:=
 if r.2.2≠0 then([],0,(r.2.2:Int))else if m<0∨m< (r.1:Int)then([],0,7)else if(l.length:Int)-r.2.1< (r.1:Int)then([],0,3)else((l.drop r.2.1.toNat).take r.1,r.2.1+(r.1:Int),0)
def Wr.string (l:List UInt8) (a:Nat) (e m:Int):List UInt8×Nat×Int:=
 if e≠0 then([],a,e)else if(Wr.az l (Vi.get l (a:Int)) m).2.2≠0 then([],a,(Wr.az l (Vi.get l (a:Int)) m).2.2)else((Wr.az l (Vi.get l (a:Int)) m).1,(Wr.az l (Vi.get l (a:Int)) m).2.1.toNat,0)
def Zd (r:List UInt8×Int×Int):Value:= .tuple #[.string ⟨r.1.toArray⟩,.int .i64 r.2.1,.int .i64 r.2.2]
theorem ES (p a bx bm l e m w) (h:aK w p l a e) (hb:w.cell? ⟨bx,0,none⟩=some (.pointer (some ⟨p,0,none⟩))) (hm:w.cell? ⟨bm,0,none⟩=some (.int .i64 m)) (m1:m≤9223372036854775807):
  Calls prog 170 #[.int .i64 (a:Int),.pointer (some ⟨bx,0,none⟩),.pointer (some ⟨bm,0,none⟩)] w fun r w'=>r= .returned (Zd (Wr.az l (Vi.get l (a:Int)) m))∧w=w':=by
 have HL:=Al (fun(t:Int) (h0:0≤t) (h1:t≤9223372036854775807)=>jh p a l e t w h h0 h1);obtain⟨A,n,c,k0,k1,k2,f1,f2,hr,h3,h4,h5,h6⟩:=h.cells;have HG:=Al (rC A n c p l (a:Int) w hr om om);have hl:=Al hr.len;have HR:=Al hr;clear h hr;obtain⟨r,hr⟩:∃r,Vi.get l (a:Int)=r:=⟨_,rfl⟩
 have hto:=fun x t (hh:r=(x,t,0))=>Vi.iY (hr.trans hh)
 rw[hr]at HG⊢;clear hr;obtain⟨x,t,er⟩:=r;unfold IU at HG;simp only at HG;by_cases h0:er=0
 ·subst h0;obtain⟨ht1,ht2⟩:=hto x t rfl;obtain⟨tn,rfl⟩:=Cr (show 0≤t from om);have ht3:(tn:Int)≤(n:Int):=by have:=hl.1;omega
  clear hto ht2;by_cases hm0:m<0
  ·have hres:Kept (Wr.az l (x,(tn:Int),0) m=([],0,7)):=⟨by unfold Wr.az;rw[Ng Ah,Ps0 (.inl hm0)]⟩
   rw[hres.1];go_enter func170,ntmps170;go_wp2_with (go_at_call 118;refine HG.1.mono ?_;rintro r w1 ⟨rfl,rfl⟩);go_ret3;exact⟨rfl,rfl⟩
  ·have Y7:0≤m:=by omega
   by_cases hmx:m< (x:Int)
   ·have hres:Kept (Wr.az l (x,(tn:Int),0) m=([],0,7)):=⟨by unfold Wr.az;rw[Ng Ah,Ps0 (.inr hmx)]⟩
    rw[hres.1];clear hm0;go_enter func170,ntmps170;go_wp2_with (go_at_call 118;refine HG.1.mono ?_;rintro r w1 ⟨rfl,rfl⟩);go_ret3;exact⟨rfl,rfl⟩
   ·have akg:(x:Int)≤m:=by omega
    have e1:Kept ((l.length:Int)-(tn:Int)=(n:Int)-(tn:Int)):=⟨by rw[←hl.1]⟩
    by_cases IW:(n:Int)-(tn:Int)< (x:Int)
    ·have hres:Kept (Wr.az l (x,(tn:Int),0) m=([],0,3)):=⟨by unfold Wr.az;rw[Ng Ah,Ng (by simp;omega),Ps0 (by rw[←hl.1];exact IW)]⟩
     rw[hres.1];clear hm0 hmx;go_enter func170,ntmps170;go_wp2_with (first
      |(go_at_call 118;refine HG.1.mono ?_;rintro r w1 ⟨rfl,rfl⟩)
      |(go_at_call 167;refine(HL.1 _ om om).mono ?_;rintro r w1 ⟨rfl,rfl⟩;rw[e1.1]))
     go_ret3;exact⟨rfl,rfl⟩
    ·have abZ:(x:Int)≤(n:Int)-(tn:Int):=by omega
     have hres:Kept (Wr.az l (x,(tn:Int),0) m=((l.drop tn).take x,(tn:Int)+(x:Int),0)):=⟨by unfold Wr.az;rw[Ng Ah,Ng (by simp;omega),Ng (by rw[←hl.1];exact IW)];rfl⟩
     rw[hres.1];have hcut:=HR.1.cut (show tn+x≤n from om);clear hm0 hmx IW;by_cases hct:c=tn
     ·rw[Ps0 hct]at hcut;have kc:=bJ w p A x (c-tn) _ hcut;obtain rfl:x=0:=om;obtain rfl:n=c:=om;subst hct;rw[Dz]at kc;clear hcut e1;have e1:Kept ((l.length:Int)-(n:Int)=0):=⟨by have:=hl.1;omega⟩
      go_enter func170,ntmps170;go_wp2_with (first
       |(go_at_call 118;refine HG.1.mono ?_;rintro r w1 ⟨rfl,rfl⟩)
       |(go_at_call 167;refine(HL.1 _ om om).mono ?_;rintro r w1 ⟨rfl,rfl⟩;rw[e1.1]))
      go_ret3;exact⟨by simp[Zd],rfl⟩
     ·rw[Ng hct]at hcut;have kc:=bJ w p _ x (c-tn) _ hcut;have akh:(tn:Int)< (c:Int):=om;have e2:((tn:Int)+(x:Int)).toNat=tn+x:=om;have i3:(tn:Int)+(x:Int)≤(n:Int):=om;have i4:(tn:Int)+(x:Int)≤(c:Int):=om;clear hcut hct;generalize (l.drop tn).take x=S at*;go_enter func170,ntmps170;go_wp2_with (first
       |(go_at_call 118;refine HG.1.mono ?_;rintro r w1 ⟨rfl,rfl⟩)
       |(go_at_call 167;refine(HL.1 _ om om).mono ?_;rintro r w1 ⟨rfl,rfl⟩;rw[e1.1]))
      go_ret3;exact⟨rfl,rfl⟩
 ·have hres:Kept (Wr.az l (x,t,er) m=([],0,(er:Int))):=⟨by unfold Wr.az;rw[Ps0 (by simpa using h0)]⟩
  rw[hres.1];have h0':((er:Int)==0)=false:=by simp;omega
  have ab0:((er:Int) !=0)=true:=by simp;omega
  clear h0 hto;go_enter func170,ntmps170;go_wp2_with (go_at_call 118;refine HG.1.mono ?_;rintro r w1 ⟨rfl,rfl⟩);go_ret3;exact⟨rfl,rfl⟩
theorem Wr.IY {l} {a:Nat} {m} (h:(Wr.az l (Vi.get l (a:Int)) m).2.2=0):0≤(Wr.az l (Vi.get l (a:Int)) m).2.1∧(Wr.az l (Vi.get l (a:Int)) m).2.1≤l.length:=by
 obtain⟨r,hr⟩:∃r,Vi.get l (a:Int)=r:=⟨_,rfl⟩
 rw[hr]at h⊢;obtain⟨x,t,er⟩:=r;unfold Wr.az at h⊢;by_cases h0:er=0
 ·subst h0;have ht:=Vi.iY hr;rw[Ng Ah]at h⊢;split
  ·rename_i h1;rw[Ps0 h1]at h;simp at h
  ·rename_i h1
   rw[Ng h1]at h;split
   ·rename_i h2;rw[Ps0 h2]at h;simp at h
   ·simp only at*;omega
 ·rw[Ps0 (by simpa using h0)]at h;simp at h;omega
theorem IZ (p a l e m w) (h:aK w p l a e) (m1:m≤9223372036854775807):
  Calls prog 119 #[.pointer (some ⟨p,0,none⟩),.int .i64 m] w fun r w'=>r= .returned (.string ⟨(Wr.string l a e m).1.toArray⟩)∧aK w' p l (Wr.string l a e m).2.1 (Wr.string l a e m).2.2∧w.grownBy w' (some p):=by
 have bb:=((Bo w 203 (.pointer (some ⟨p,0,none⟩))).alloc (.cells #[.int .i64 m] 3)).cell;have bm:=(Bo (w.alloc (.cells #[.pointer (some ⟨p,0,none⟩)] 203)) 3 (.int .i64 m)).cell;have H:=Al ((h.box (.cells #[.pointer (some ⟨p,0,none⟩)] 203)).box (.cells #[.int .i64 m] 3));have g0:w.grownBy ((w.alloc (.cells #[.pointer (some ⟨p,0,none⟩)] 203)).alloc (.cells #[.int .i64 m] 3)) (some p):=(Ga _ _ _).trans (Ga _ _ _);rw[AV]at bm;have hU:=ES p a w.heap.size (w.heap.size+1) l e m _ H.1 bb bm m1;obtain⟨W2,hW2⟩:∃W2,W2=(w.alloc (.cells #[.pointer (some ⟨p,0,none⟩)] 203)).alloc (.cells #[.int .i64 m] 3):=⟨_,rfl⟩
 have HW2:=Al hW2;by_cases he:e=0
 ·subst he;obtain⟨s,hs⟩:∃s,Wr.az l (Vi.get l (a:Int)) m=s:=⟨_,rfl⟩
  have hto:=Wr.IY (l:=l) (a:=a) (m:=m);have hmm:Wr.string l a 0 m=if s.2.2≠0 then([],a,s.2.2)else(s.1,s.2.1.toNat,0):=by unfold Wr.string;rw[Ng Ah,hs]
  rw[hmm];rw[hs]at hU hto;obtain⟨S,t,er⟩:=s;unfold Zd at hU;simp only at hU hto⊢;by_cases h0:er=0
  ·subst h0;obtain⟨ht0,ht1⟩:=hto rfl;rw[Ng Ah];have HF:=Al (vK p a 170 l t (.pointer (some ⟨w.heap.size,0,none⟩)) (.pointer (some ⟨w.heap.size+1,0,none⟩)) _ (fun V w'=>V= .string ⟨S.toArray⟩∧w'=W2) H.1
    (BR func170 kr rfl) (hU.mono fun r w' ⟨h1,h2⟩=>⟨_,h1,rfl,by rw[hW2,h2]⟩) (fun V w' ⟨_,h⟩=>by rw[h,hW2];exact H.1))
   have G0:=Al g0;have ht2:((t.toNat:Nat):Int)=t:=om;have HM:=Al (H.1.move t.toNat om);rw[ht2]at HM;clear h g0 hmm bb bm hU hto hs hW2 ht2;go_enter func119,ntmps119;go_wp2_with (go_at_call 169;refine HF.1.mono ?_;rintro r w1 ⟨V,rfl,w2,⟨rfl,rfl⟩,rfl⟩;rw[HW2.1]);go_ret;exact⟨rfl,HM.1,G0.1.trans (ak _ ⟨p,1,none⟩ _)⟩
  ·rw[Ps0 h0];have HF:=Al (sH p a 170 l t er (.pointer (some ⟨w.heap.size,0,none⟩)) (.pointer (some ⟨w.heap.size+1,0,none⟩)) _ (fun w'=>w'=W2) H.1 h0
    (BR func170 kr rfl) (hU.mono fun r w' ⟨h1,h2⟩=>⟨⟨_,h1⟩,by rw[hW2,h2]⟩) (fun w' h=>by rw[h,hW2];exact H.1))
   have G0:=Al g0;clear h g0 bb bm hU hto hs hW2 hmm h0;go_enter func119,ntmps119;go_wp2_with (go_at_call 169;refine HF.1.mono ?_;rintro r w1 ⟨rfl,w2,rfl,rfl⟩;rw[HW2.1]);go_ret;exact⟨rfl,H.1.fail er,G0.1.trans (ak _ ⟨p,2,none⟩ _)⟩
 ·have hmm:Wr.string l a e m=([],a,e):=by unfold Wr.string;rw[Ps0 he]
  rw[hmm];have HF:=Al (sG p a l e (.func (.func 170) #[] #[.pointer (some ⟨w.heap.size,0,none⟩),.pointer (some ⟨w.heap.size+1,0,none⟩)]) _ H.1 he);have G0:=Al g0;clear h g0 hmm bb bm he hU hW2;go_enter func119,ntmps119;go_wp2_with (go_at_call 169;refine HF.1.mono ?_;rintro r w1 ⟨rfl,rfl⟩);go_ret;exact⟨rfl,H.1,G0.1⟩
end
end
section
section
open Go.RowKit Go.Shelf
def Wr.aL (l:List UInt8) (a:Nat) (id:UInt8):List UInt8×Int×Int:=
 if h:a<l.length then
  if l[a]≠id then([],0,11)
  else
   let r:=Vi.get l ((a:Int)+1)
   if r.2.2≠0 then([],0,(r.2.2:Int))
   else if(l.length:Int)-r.2.1-4< (r.1:Int)then([],0,3)
   else if bP.bN ((l.drop a).take (r.2.1.toNat+r.1+4-a))=false then([],0,12)
   else((l.drop r.2.1.toNat).take r.1,r.2.1+(r.1:Int)+4,0)
 else([],0,3)
def gI (w:World) (s:List UInt8×Int×Int) (r:Ending) (w':World):Prop:=
 (s.2.2≠0∧r= .returned (.tuple #[.slice none 0 0,.int .i64 s.2.1,.int .i64 s.2.2])∧Quiet w w')∨(s.2.2=0∧∃A3 n3 c3,r= .returned (.tuple #[.slice A3 n3 c3,.int .i64 s.2.1,.int .i64 0])∧ah w' w.heap.size A3 n3 c3 s.1∧Below w.heap.size w w')
theorem gI.bad {w w' tt er} (h:er≠0) (q:Quiet w w'):gI w ([],tt,er) (.returned (.tuple #[.slice none 0 0,.int .i64 tt,.int .i64 er])) w':= .inl ⟨h,rfl,q⟩
theorem yl (p a bx bi l e id w) (h:aK w p l a e) (hb:w.cell? ⟨bx,0,none⟩=some (.pointer (some ⟨p,0,none⟩))) (hi:w.cell? ⟨bi,0,none⟩=some (.int .u8 (id.toNat:Int))) (ht:gH w):
  Calls prog 166 #[.int .i64 (a:Int),.pointer (some ⟨bx,0,none⟩),.pointer (some ⟨bi,0,none⟩)] w (gI w (Wr.aL l a id)):=by
 have hlen:=h.len;have HL:=Al (fun(W:World) (hW:aK W p l a e) (t:Int) (h0:0≤t) (h1:t≤9223372036854775807)=>jh p a l e t W hW h0 h1);have hp:=h.lt;obtain⟨A,n,c,k0,k1,k2,f1,f2,hr,h3,h4,h5,h6⟩:=h.cells;have hl:=Al hr.len;have HG:=Al (fun(W:World) (hW:aY W p A n c l)=>rC A n c p l ((a:Int)+1) W hW om om);have HR:=Al hr;have H:=Al h;have HT:=Al ht;have e1:Kept ((l.length:Int)-(a:Int)=(n:Int)-(a:Int)):=⟨by rw[←hl.1]⟩
 clear ht;by_cases ha:a<l.length
 ·have h7:(a:Int)< (n:Int):=by have:=hl.1;omega
  have h8:(1:Int)≤(n:Int)-(a:Int):=om;obtain⟨b,off,rfl,hbp,hcell⟩:=hr.at_ ha;clear h hr;by_cases hid:l[a]=id
  ·have afj:Kept (l[a]=id):=⟨hid⟩
   rw[hid]at hcell;clear hid;obtain⟨r,hr⟩:∃r,Vi.get l ((a:Int)+1)=r:=⟨_,rfl⟩
   have hto:=fun x t (hh:r=(x,t,0))=>Vi.iY (a:=a+1) (by rw[Int.natCast_add];exact hr.trans hh)
   rw[hr]at HG;have I1:Kept (Wr.aL l a id=if r.2.2≠0 then([],0,(r.2.2:Int))else if(l.length:Int)-r.2.1-4< (r.1:Int)then([],0,3)else if bP.bN ((l.drop a).take (r.2.1.toNat+r.1+4-a))=false then([],0,12)else((l.drop r.2.1.toNat).take r.1,r.2.1+(r.1:Int)+4,0)):=⟨by
    unfold Wr.aL;rw[dif_pos ha,Ng (by simpa using afj.1),hr]⟩
   rw[I1.1];clear hr;obtain⟨x,t,er⟩:=r;unfold IU at HG;simp only at HG⊢;by_cases h0:er=0
   ·subst h0;rw[Ng Ah];obtain⟨ht1,ht2⟩:=hto x t rfl;obtain⟨tn,rfl⟩:=Cr (show 0≤t from om);have ht3:(tn:Int)≤(n:Int):=by have:=hl.1;omega
    have ht4:(a:Int)+1< (tn:Int):=om;have e3:Kept ((l.length:Int)-(tn:Int)=(n:Int)-(tn:Int)):=⟨by rw[←hl.1]⟩
    clear hto ht2 ht1;simp only[lZ];by_cases IW:(n:Int)-(tn:Int)-4< (x:Int)
    ·rw[Ps0 (by rw[e3.1];exact IW)];by_cases hneg:(n:Int)-(tn:Int)-4<0
     ·go_enter func166,ntmps166;go_wp2_with (go_at_call 167;refine(HL.1 _ (by exact H.1) _ om om).mono ?_;rintro r w1 ⟨rfl,rfl⟩;rw[e1.1]);go_quiet (fail);go_wp2_with (first
       |(go_at_call 118;refine(HG.1 _ (by exact HR.1)).mono ?_;rintro r w1 ⟨rfl,rfl⟩)
       |(go_at_call 167;refine(HL.1 _ (by exact H.1) _ om om).mono ?_;rintro r w1 ⟨rfl,rfl⟩;rw[e3.1]))
      go_ret3;exact gI.bad Ai ⟨_,rfl⟩
     ·have hneg':0≤(n:Int)-(tn:Int)-4:=by omega
      clear hneg;go_enter func166,ntmps166;go_wp2_with (go_at_call 167;refine(HL.1 _ (by exact H.1) _ om om).mono ?_;rintro r w1 ⟨rfl,rfl⟩;rw[e1.1]);go_quiet (fail);go_wp2_with (first
       |(go_at_call 118;refine(HG.1 _ (by exact HR.1)).mono ?_;rintro r w1 ⟨rfl,rfl⟩)
       |(go_at_call 167;refine(HL.1 _ (by exact H.1) _ om om).mono ?_;rintro r w1 ⟨rfl,rfl⟩;rw[e3.1]))
      go_ret3;exact gI.bad Ai ⟨_,rfl⟩
    ·rw[Ng (by rw[e3.1];exact IW)];have abZ:(x:Int)≤(n:Int)-(tn:Int)-4:=om;have hneg':0≤(n:Int)-(tn:Int)-4:=om;have e2:((tn:Int)+(x:Int)+4).toNat=tn+x+4:=om;have e4:((tn:Int)+(x:Int)).toNat=tn+x:=om;have i1:(a:Int)≤(tn:Int)+(x:Int)+4:=om;have i2:(tn:Int)+(x:Int)+4≤(n:Int):=om;have i3:(tn:Int)+(x:Int)+4≤(c:Int):=om;have i4:(a:Int)< (c:Int):=om;have i5:(tn:Int)< (c:Int):=om;have i6:(tn:Int)+(x:Int)≤(n:Int):=om;have i7:(tn:Int)+(x:Int)≤(c:Int):=om;have c1:=HR.1.cut (a:=a) (k:=tn+x+4-a) om;have c2:=HR.1.cut (a:=tn) (k:=x) om;rw[Ng om]at c1 c2;simp only[EF,add_plain]at c1 c2;have hpl:p≤w.heap.size:=om;obtain⟨ck,hck⟩:∃b,bP.bN ((l.drop a).take (tn+x+4-a))=b:=⟨_,rfl⟩
     rw[hck];have HC:=Al (fun(W:World) (hW:aY W p (some ⟨b,off+a,none⟩) (tn+x+4-a) (c-a) ((l.drop a).take (tn+x+4-a))) (hT:gH W)=>wQ _ _ _ _ W p hW hT);rw[hck]at HC;have C1:=Al c1;have C2:=Al c2;clear c1 c2 hck IW;cases ck with
     |false=>
      rw[Ps0 rfl];go_enter func166,ntmps166;go_wp2_with (go_at_call 167;refine(HL.1 _ (by exact H.1) _ om om).mono ?_;rintro r w1 ⟨rfl,rfl⟩;rw[e1.1]);go_quiet (fail);go_wp2_with (first
       |(go_at_call 118;refine(HG.1 _ (by exact HR.1)).mono ?_;rintro r w1 ⟨rfl,rfl⟩)
       |(go_at_call 167;refine(HL.1 _ (by exact H.1) _ om om).mono ?_;rintro r w1 ⟨rfl,rfl⟩;rw[e3.1])
       |(go_at_call 116;refine(HC.1 _ (by exact C1.1) (by exact HT.1)).mono ?_;rintro r w1 ⟨rfl,rfl⟩))
      go_ret3;exact gI.bad Ai ⟨_,rfl⟩
     |true=>
      rw[Ng Ah];go_enter func166,ntmps166;go_wp2_with (go_at_call 167;refine(HL.1 _ (by exact H.1) _ om om).mono ?_;rintro r w1 ⟨rfl,rfl⟩;rw[e1.1]);go_quiet (fail);go_wp2_with (first
       |(go_at_call 118;refine(HG.1 _ (by exact HR.1)).mono ?_;rintro r w1 ⟨rfl,rfl⟩)
       |(go_at_call 167;refine(HL.1 _ (by exact H.1) _ om om).mono ?_;rintro r w1 ⟨rfl,rfl⟩;rw[e3.1])
       |(go_at_call 116;refine(HC.1 _ (by exact C1.1) (by exact HT.1)).mono ?_;rintro r w1 ⟨rfl,rfl⟩)
       |(go_at_call 164;refine(fQ _ _ _ p ((l.drop tn).take x) _ (by exact C2.1) (by exact hpl) om).mono ?_;rintro r w1 ⟨A3,c3,rfl,ho,hbl⟩))
      go_ret3;exact .inr ⟨rfl,A3,x,c3,rfl,ho,(Quiet.below ⟨_,rfl⟩ _).trans hbl⟩
   ·have h0':((er:Int)==0)=false:=by simp;omega
    have ab0:((er:Int) !=0)=true:=by simp;omega
    have h0n:Kept ((er:Int)≠0):=⟨om⟩
    rw[Ps0 (by simpa using h0)];clear h0 hto;go_enter func166,ntmps166;go_wp2_with (go_at_call 167;refine(HL.1 _ (by exact H.1) _ om om).mono ?_;rintro r w1 ⟨rfl,rfl⟩;rw[e1.1]);go_quiet (fail);go_wp2_with (first
     |(go_at_call 118;refine(HG.1 _ (by exact HR.1)).mono ?_;rintro r w1 ⟨rfl,rfl⟩))
    go_ret3;exact gI.bad h0n.1 ⟨_,rfl⟩
  ·have I1:Kept (Wr.aL l a id=([],0,11)):=⟨by unfold Wr.aL;rw[dif_pos ha,Ps0 (by simpa using hid)]⟩
   rw[I1.1];have hne:l[a].toNat≠id.toNat:=fun h=>hid (UInt8.toNat_inj.1 h)
   generalize l[a].toNat=v at*;generalize id.toNat=v' at*;have hnb:((v:Int)==(v':Int))=false:=by simp;omega
   have hnb':((v:Int) !=(v':Int))=true:=by simp;omega
   clear hid hne;go_enter func166,ntmps166;go_wp2_with (go_at_call 167;refine(HL.1 _ (by exact H.1) _ om om).mono ?_;rintro r w1 ⟨rfl,rfl⟩;rw[e1.1]);go_quiet (fail);go_wp2_with fail;go_ret3;exact gI.bad Ai ⟨_,rfl⟩
 ·have I1:Kept (Wr.aL l a id=([],0,3)):=⟨by unfold Wr.aL;rw[dif_neg ha]⟩
  rw[I1.1];have e2:Kept ((n:Int)-(a:Int)=0):=⟨by have:=hl.1;omega⟩
  clear h hr;go_enter func166,ntmps166;go_wp2_with (go_at_call 167;refine(HL.1 _ (by exact H.1) _ om om).mono ?_;rintro r w1 ⟨rfl,rfl⟩;rw[e1.1,e2.1]);go_ret3;exact gI.bad Ai ⟨0,rfl⟩
end
end
section
section
open Go.RowKit Go.Shelf
def Wr.mJ (l:List UInt8) (a:Nat) (e:Int) (id:UInt8):List UInt8×Nat×Int:=
 if e≠0 then([],a,e)else if(Wr.aL l a id).2.2≠0 then([],a,(Wr.aL l a id).2.2)else((Wr.aL l a id).1,(Wr.aL l a id).2.1.toNat,0)
theorem Wr.qz {l a id} (h:(Wr.aL l a id).2.2=0):0≤(Wr.aL l a id).2.1∧(Wr.aL l a id).2.1≤l.length:=by
 unfold Wr.aL at h⊢;by_cases ha:a<l.length
 ·rw[dif_pos ha]at h⊢;by_cases hid:l[a]≠id
  ·rw[Ps0 hid]at h;simp at h
  ·rw[Ng hid]at h⊢;obtain⟨r,hr⟩:∃r,Vi.get l ((a:Int)+1)=r:=⟨_,rfl⟩
   rw[hr]at h⊢;have hto:=fun x t (hh:r=(x,t,0))=>Vi.iY (a:=a+1) (by rw[Int.natCast_add];exact hr.trans hh)
   obtain⟨x,t,er⟩:=r;simp only at h⊢;by_cases h0:er=0
   ·subst h0;have:=hto x t rfl;rw[Ng Ah]at h⊢;split
    ·rename_i h1;rw[Ps0 h1]at h;simp at h
    ·rename_i h1
     rw[Ng h1]at h;split
     ·rename_i h2;rw[Ps0 h2]at h;simp at h
     ·simp only;omega
   ·rw[Ps0 h0]at h;simp at h;omega
 ·rw[dif_neg ha]at h;simp at h
theorem qA (p a l e id w) (h:aK w p l a e) (ht:gH w):
  Calls prog 113 #[.pointer (some ⟨p,0,none⟩),.int .u8 (id.toNat:Int)] w fun r w'=>∃A3 n3 c3,r= .returned (.slice A3 n3 c3)∧ah w' w.heap.size A3 n3 c3 (Wr.mJ l a e id).1∧aK w' p l (Wr.mJ l a e id).2.1 (Wr.mJ l a e id).2.2∧w.grownBy w' (some p):=by
 have bb:=((Bo w 203 (.pointer (some ⟨p,0,none⟩))).alloc (.cells #[.int .u8 (id.toNat:Int)] 5)).cell;have bm:=(Bo (w.alloc (.cells #[.pointer (some ⟨p,0,none⟩)] 203)) 5 (.int .u8 (id.toNat:Int))).cell;have H:=Al ((h.box (.cells #[.pointer (some ⟨p,0,none⟩)] 203)).box (.cells #[.int .u8 (id.toNat:Int)] 5));have g0:w.grownBy ((w.alloc (.cells #[.pointer (some ⟨p,0,none⟩)] 203)).alloc (.cells #[.int .u8 (id.toNat:Int)] 5)) (some p):=(Ga _ _ _).trans (Ga _ _ _);have hz2:((w.alloc (.cells #[.pointer (some ⟨p,0,none⟩)] 203)).alloc (.cells #[.int .u8 (id.toNat:Int)] 5)).heap.size=w.heap.size+1+1:=Ah;rw[AV]at bm;have hp:=h.lt;have hU:=yl p a w.heap.size (w.heap.size+1) l e id _ H.1 bb bm ((ht.alloc _).alloc _);obtain⟨W2,hW2⟩:∃W2,W2=(w.alloc (.cells #[.pointer (some ⟨p,0,none⟩)] 203)).alloc (.cells #[.int .u8 (id.toNat:Int)] 5):=⟨_,rfl⟩
 have HW2:=Al hW2;by_cases he:e=0
 ·subst he;obtain⟨s,hs⟩:∃s,Wr.aL l a id=s:=⟨_,rfl⟩
  have hto:=Wr.qz (l:=l) (a:=a) (id:=id);have hmm:Wr.mJ l a 0 id=if s.2.2≠0 then([],a,s.2.2)else(s.1,s.2.1.toNat,0):=by unfold Wr.mJ;rw[Ng Ah,hs]
  rw[hmm];rw[hs]at hU hto;obtain⟨S,t,er⟩:=s;unfold gI at hU;simp only at hU hto⊢;by_cases h0:er=0
  ·subst h0;obtain⟨ht0,ht1⟩:=hto rfl;rw[Ng Ah];have HF:=Al (qy p a 166 l t (.pointer (some ⟨w.heap.size,0,none⟩)) (.pointer (some ⟨w.heap.size+1,0,none⟩)) _ (fun V w'=>∃A3 n3 c3,V= .slice A3 n3 c3∧ah w' W2.heap.size A3 n3 c3 S∧Below W2.heap.size W2 w') H.1
    (BR func166 kr rfl) (hU.mono fun r w' hh=>by
     rcases hh with⟨h1,_⟩|⟨_,A3,n3,c3,h1,h2,h3⟩
     ·exact absurd rfl h1
     ·exact⟨_,h1,A3,n3,c3,rfl,by rw[hW2];exact h2,by rw[hW2];exact h3⟩)
    (fun V w' ⟨A3,n3,c3,_,_,h⟩=>by rw[hW2]at h;exact H.1.below h (by rw[hz2];omega)))
   have G0:=Al g0;have Hz2:=Al hz2;have ht2:Kept (((t.toNat:Nat):Int)=t):=⟨om⟩
   have ht3:t.toNat≤l.length:=om;clear h g0 hmm bb bm hU hto hs hW2 hz2 ht;go_enter func113,ntmps113;go_wp2_with (go_at_call 165;refine HF.1.mono ?_;rintro r w1 ⟨V,rfl,w2,⟨A3,n3,c3,rfl,ho,hbl⟩,rfl⟩);go_ret;rw[HW2.1]at ho hbl;have hm2:=(H.1.below hbl (by rw[Hz2.1];omega)).move t.toNat ht3;rw[ht2.1]at hm2;rw[Hz2.1]at ho;exact⟨A3,n3,c3,rfl,(ho.far (by show p<_;omega) _).base om,hm2,(G0.1.trans (below_grown hbl _)).trans (ak _ ⟨p,1,none⟩ _)⟩
  ·rw[Ps0 h0];have HF:=Al (nG p a 166 l t er (.pointer (some ⟨w.heap.size,0,none⟩)) (.pointer (some ⟨w.heap.size+1,0,none⟩)) _ (fun w'=>Quiet W2 w') H.1 h0
    (BR func166 kr rfl) (hU.mono fun r w' hh=>by
     rcases hh with⟨_,h1,h2⟩|⟨h1,_⟩
     ·exact⟨⟨_,h1⟩,by rw[hW2];exact h2⟩
     ·exact absurd h1 h0)
    (fun w' h=>by rw[hW2]at h;exact H.1.below (h.below (p+1)) om))
   have G0:=Al g0;clear h g0 bb bm hU hto hs hW2 hmm h0 ht;go_enter func113,ntmps113;go_wp2_with (go_at_call 165;refine HF.1.mono ?_;rintro r w1 ⟨rfl,w2,hq,rfl⟩);go_ret;rw[HW2.1]at hq;exact⟨none,0,0,rfl,ah.nil _ _,(H.1.below (hq.below (p+1)) om).fail er,(G0.1.trans (hq.grown _)).trans (ak _ ⟨p,2,none⟩ _)⟩
 ·have hmm:Wr.mJ l a e id=([],a,e):=by unfold Wr.mJ;rw[Ps0 he]
  rw[hmm];have HF:=Al (nE p a l e (.func (.func 166) #[] #[.pointer (some ⟨w.heap.size,0,none⟩),.pointer (some ⟨w.heap.size+1,0,none⟩)]) _ H.1 he);have G0:=Al g0;clear h g0 hmm bb bm he hU hW2 ht;go_enter func113,ntmps113;go_wp2_with (go_at_call 165;refine HF.1.mono ?_;rintro r w1 ⟨rfl,rfl⟩);go_ret;exact⟨none,0,0,rfl,ah.nil _ _,H.1,G0.1⟩
end
end
section
section
open Go.RowKit
theorem Wr.jH (id d):(Wr.frame id d).length=1+(Vi.enc d.length).length+d.length+4:=by
 unfold Wr.frame Wr.str;rw[bP.jg,Lc,La];omega
theorem Wr.ET (id d):∃q,Wr.frame id d=[id]++Vi.enc d.length++(d++q)∧q.length=4:=by
 refine⟨bP.four (bP.sum (id::Wr.str d)),?_,by simp[bP.four]⟩;unfold Wr.frame Wr.str bP.app;simp
theorem Wr.sI (P R d id) (hd:d.length<18446744073709551616):Wr.mJ (P++Wr.frame id d++R) P.length 0 id=(d,P.length+(Wr.frame id d).length,0):=by
 obtain⟨q,hq,hq4⟩:=Wr.ET id d;have hl:=Wr.jH id d;have hlen:(P++Wr.frame id d++R).length=P.length+(Wr.frame id d).length+R.length:=by simp;omega
 have ha:P.length< (P++Wr.frame id d++R).length:=om;have ab1:(P++Wr.frame id d++R)[P.length]=id:=by
  have:(P++Wr.frame id d++R)[P.length]? =some id:=by
   rw[Af,Bp Aj,hq];simp
  exact(l5.1 this).2
 have hget:Vi.get (P++Wr.frame id d++R) ((P.length:Int)+1)=(d.length,((P.length+1+(Vi.enc d.length).length:Nat):Int),0):=by
  have h:=Vi.xZ (P++[id]) d.length (d++q++R) hd;have e:P++Wr.frame id d++R=P++[id]++Vi.enc d.length++(d++q++R):=by rw[hq];simp
  rw[e];rw[La]at h;simpa using h
 have I1:Wr.aL (P++Wr.frame id d++R) P.length id=(d,((P.length+(Wr.frame id d).length:Nat):Int),0):=by
  unfold Wr.aL;rw[dif_pos ha,Ng (by rw[ab1];simp),hget];simp only;rw[Ng Ah,Ng (by rw[hlen];omega)];have e1:(P.length+1+(Vi.enc d.length).length:Nat)+d.length+4-P.length=(Wr.frame id d).length:=om;rw[lZ,e1];have e2:((P++Wr.frame id d++R).drop P.length).take (Wr.frame id d).length=Wr.frame id d:=by
   rw[Af,Dr,List.take_left]
  have e3:bP.bN (Wr.frame id d)=true:=bP.KM _;rw[e2,e3,Ng Ah];have e4:((P++Wr.frame id d++R).drop (P.length+1+(Vi.enc d.length).length)).take d.length=d:=by
   have e:P++Wr.frame id d++R=(P++[id]++Vi.enc d.length)++(d++(q++R)):=by rw[hq];simp
   have e5:P.length+1+(Vi.enc d.length).length=(P++[id]++Vi.enc d.length).length:=by simp;omega
   rw[e,e5,Dr,List.take_left]
  rw[e4];simp only[aA,true_and,BO];omega
 unfold Wr.mJ;rw[Ng Ah,I1];simp only[ne_eq,Bz,Dv,lZ]
theorem Wr.I4 (P R d m) (hd:d.length<18446744073709551616) (hm:(d.length:Int)≤m):Wr.string (P++Wr.str d++R) P.length 0 m=(d,P.length+(Wr.str d).length,0):=by
 have hsl:(Wr.str d).length=(Vi.enc d.length).length+d.length:=by unfold Wr.str;simp
 have hlen:(P++Wr.str d++R).length=P.length+(Wr.str d).length+R.length:=by simp;omega
 have hget:Vi.get (P++Wr.str d++R) (P.length:Int)=(d.length,((P.length+(Vi.enc d.length).length:Nat):Int),0):=by
  have h:=Vi.xZ P d.length (d++R) hd;have e:P++Wr.str d++R=P++Vi.enc d.length++(d++R):=by unfold Wr.str;simp
  rw[e];exact h
 have hs1:Wr.az (P++Wr.str d++R) (Vi.get (P++Wr.str d++R) (P.length:Int)) m=(d,((P.length+(Wr.str d).length:Nat):Int),0):=by
  rw[hget];unfold Wr.az;rw[Ng Ah,Ng (by simp;omega),Ng (by simp only;rw[hlen];omega)];simp only[lZ];have e4:((P++Wr.str d++R).drop (P.length+(Vi.enc d.length).length)).take d.length=d:=by
   have e:P++Wr.str d++R=(P++Vi.enc d.length)++(d++R):=by unfold Wr.str;simp
   have e5:P.length+(Vi.enc d.length).length=(P++Vi.enc d.length).length:=Ah;rw[e,e5,Dr,List.take_left]
  rw[e4];simp only[aA,true_and,BO];omega
 unfold Wr.string;rw[Ng Ah,hs1];simp only[ne_eq,Bz,Dv,lZ]
end
end
section
section
open Go.RowKit Go.Shelf
theorem EU {w w' p B} (h:w.grownBy w' (some p)) (hp:B≤p) (hB:B≤w.heap.size):Below B w w':=(Ae _ w).grown h hB (fun g e=>by cases e;exact hp)
theorem Qf (A1 A2 n1 n2 c1 c2 l1 l2 b w B1 B2) (h1:aY w B1 A1 n1 c1 l1) (h2:aY w B2 A2 n2 c2 l2) (hb:(l1==l2)=b):
  Calls prog 18 #[.slice A1 n1 c1,.slice A2 n2 c2] w fun e w'=>e= .returned (.bool b)∧w=w':=by
 have h:=Ni A1 A2 n1 n2 c1 c2 l1 l2 w B1 B2 h1 h2;rw[hb]at h;exact h
end
end
end Go.Proofs.YtongopommlghgaaGreatDoor
