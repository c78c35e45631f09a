/- Part 4. -/
import Derived.Test.YtjcpmfphnodaaaaGreatDoorZTAC
import Derived.Deep.RegionHeld3
namespace Go.Proofs.YtjcpmfphnodaaaaGreatDoor
set_option maxRecDepth 100000
set_option maxHeartbeats 0
open _root_.Go.Proofs.Tryz
section
section
open Go.RowKit Go.Shelf
def Wr.uint (l:List UInt8) (a:Nat) (e:Int) (most:Nat):Nat×Nat×Int:=
 if e≠0 then(0,a,e)else
  let r:=Vi.get l (a:Int)
  if r.2.2≠0 then(0,a,(r.2.2:Int))else if most<r.1 then(0,a,7)else(r.1,r.2.1.toNat,0)
theorem aK.box {w} {p a} {l} {e} (h:aK w p l a e) (o):aK (w.alloc o) p l a e:=h.below ((Ae _ w).alloc Ai o) h.lt
end
end
section
section
open Go.RowKit Go.Shelf
theorem Vi.gX {l} {a x:Nat} {t} (h:Vi.get l (a:Int)=(x,t,0)):(a:Int)<t∧t≤l.length:=by
 unfold Vi.get at h;by_cases hc:(a:Int)<0∨(l.length:Int)<a
 ·rw[Ps0 hc]at h;cases h
 ·rw[Ng hc]at h;have key:∀(r:List UInt8) (i y:Nat),(Vi.dP r i y).2.2=0→i< (Vi.dP r i y).2.1∧(Vi.dP r i y).2.1≤i+r.length:=by
   intro r
   induction r with
   |nil=>intro i y h;cases h
   |cons c r ih=>
    intro i y;rw[Vi.bQ];split
    ·intro h;cases h
    ·split
     ·intro h;cases h
     ·split
      ·intro _;simp
      ·intro h;have:=ih _ _ h;simp;omega
  have k:=key (l.drop (a:Int).toNat) 0 0;revert h k;generalize Vi.dP (l.drop (a:Int).toNat) 0 0=q;intro h k;simp only at h;by_cases hq:q.2.2=0
  ·rw[Ps0 hq]at h;have:=k hq;simp only[jX,lS]at this;cases h;omega
  ·rw[Ng hq]at h;simp only[ay]at h;exact absurd h.2.2 hq
theorem L6 (p a bx bm m:Nat) (l) (e) (w) (h:aK w p l a e) (hb:w.cell? ⟨bx,0,none⟩=some (.pointer (some ⟨p,0,none⟩))) (hm:w.cell? ⟨bm,0,none⟩=some (.int .u64 (m:Int))):
  Calls prog 228 #[.int .i64 (a:Int),.pointer (some ⟨bx,0,none⟩),.pointer (some ⟨bm,0,none⟩)] w fun r w'=>r= .returned (.tuple #[.int .u64 ((Vi.get l (a:Int)).1:Int),.int .i64 (Vi.get l (a:Int)).2.1,
   .int .i64 (if(Vi.get l (a:Int)).2.2=0∧m< (Vi.get l (a:Int)).1 then 7 else((Vi.get l (a:Int)).2.2:Int))])∧w=w':=by
 obtain⟨A,n,c,k0,k1,k2,f1,f2,hr,h3,h4,h5,h6⟩:=h.cells;have HG:=Aj (nC A n c p l (a:Int) w hr om om);clear h hr;obtain⟨r,hr⟩:∃r,Vi.get l (a:Int)=r:=⟨_,rfl⟩
 rw[hr]at HG⊢;obtain⟨x,t,er⟩:=r;unfold zQ at HG;simp only at HG⊢;clear hr;by_cases h0:er=0
 ·subst h0;by_cases hx:m<x
  ·rw[Ps0 ⟨rfl,hx⟩];have hx':(m:Int)< (x:Int):=om;go_enter func228,ntmps228;go_wp2_with (go_at_call 118;refine HG.1.mono ?_;rintro r w1 ⟨rfl,rfl⟩);go_ret3;exact⟨rfl,rfl⟩
  ·rw[Ng (fun h=>hx h.2)];have hx':(x:Int)≤(m:Int):=om;go_enter func228,ntmps228;go_wp2_with (go_at_call 118;refine HG.1.mono ?_;rintro r w1 ⟨rfl,rfl⟩);go_ret3;exact⟨rfl,rfl⟩
 ·rw[Ng (fun h=>h0 h.1)];have h0':((er:Int)==0)=false:=by simp;omega
  clear h0;go_enter func228,ntmps228;go_wp2_with (go_at_call 118;refine HG.1.mono ?_;rintro r w1 ⟨rfl,rfl⟩);go_ret3;exact⟨rfl,rfl⟩
theorem ja (p a m:Nat) (l) (e) (w) (h:aK w p l a e):
  Calls prog 182 #[.pointer (some ⟨p,0,none⟩),.int .u64 (m:Int)] w fun r w'=>r= .returned (.int .u64 ((Wr.uint l a e m).1:Int))∧aK w' p l (Wr.uint l a e m).2.1 (Wr.uint l a e m).2.2∧w.grownBy w' (some p):=by
 have bb:=((Boxed.new w 203 (.pointer (some ⟨p,0,none⟩))).alloc (.cells #[.int .u64 (m:Int)] 125)).cell;have bm:=(Boxed.new (w.alloc (.cells #[.pointer (some ⟨p,0,none⟩)] 203)) 125 (.int .u64 (m:Int))).cell;have H:=Aj ((h.box (.cells #[.pointer (some ⟨p,0,none⟩)] 203)).box (.cells #[.int .u64 (m:Int)] 125));have g0:w.grownBy ((w.alloc (.cells #[.pointer (some ⟨p,0,none⟩)] 203)).alloc (.cells #[.int .u64 (m:Int)] 125)) (some p):=(Ga _ _ _).trans (Ga _ _ _);rw[AO]at bm;have hU:=L6 p a w.heap.size (w.heap.size+1) m l e _ H.1 bb bm;obtain⟨W2,hW2⟩:∃W2,W2=(w.alloc (.cells #[.pointer (some ⟨p,0,none⟩)] 203)).alloc (.cells #[.int .u64 (m:Int)] 125):=⟨_,rfl⟩
 have hlen:=h.len;by_cases he:e=0
 ·subst he;obtain⟨r,hr⟩:∃r,Vi.get l (a:Int)=r:=⟨_,rfl⟩
  have hto:=fun x t (hh:r=(x,t,0))=>Vi.gX (hr.trans hh)
  have hm:Wr.uint l a 0 m=if r.2.2≠0 then(0,a,(r.2.2:Int))else if m<r.1 then(0,a,7)else(r.1,r.2.1.toNat,0):=by
   unfold Wr.uint;rw[Ng sm,hr]
  rw[hm];rw[hr]at hU;obtain⟨x,t,er⟩:=r;simp only at hU⊢;by_cases hbad:(if er=0∧m<x then(7:Int)else(er:Int))=0
  ·have h00:er=0:=by
    by_cases h:er=0
    ·exact h
    ·rw[Ng (fun hh=>h hh.1)]at hbad;omega
   subst h00;have hx:¬m<x:=fun hh=>by rw[Ps0 ⟨rfl,hh⟩]at hbad;omega
   have ht:=hto x t rfl;rw[Ng sm,Ng hx];rw[Ng (fun hh=>hx hh.2)]at hU;have HF:=Aj (zU p a 228 l t (.pointer (some ⟨w.heap.size,0,none⟩)) (.pointer (some ⟨w.heap.size+1,0,none⟩)) _ (fun V w'=>V= .int .u64 (x:Int)∧w'=W2) H.1
    (enters_of func228 kr rfl) (hU.mono fun r w' ⟨h1,h2⟩=>⟨_,h1,rfl,by rw[hW2,h2]⟩) (fun V w' ⟨_,h⟩=>by rw[h,hW2];exact H.1))
   have G0:=Aj g0;have HW2:=Aj hW2;have ht1:((t.toNat:Nat):Int)=t:=om;have HM:=Aj (H.1.move t.toNat om);rw[ht1]at HM;clear h g0 hm bb bm hU hto hr hW2 ht1;go_enter func182,ntmps182;go_wp2_with (go_at_call 227;refine HF.1.mono ?_;rintro r w1 ⟨V,rfl,w2,⟨rfl,rfl⟩,rfl⟩;rw[HW2.1]);go_ret;exact⟨rfl,HM.1,G0.1.trans (ag _ ⟨p,1,none⟩ _)⟩
  ·have hres:(if er≠0 then(0,a,(er:Int))else if m<x then(0,a,7)else(x,t.toNat,0):Nat×Nat×Int)=(0,a,if er=0∧m<x then(7:Int)else(er:Int)):=by
    by_cases h:er=0
    ·subst h;by_cases hx:m<x
     ·rw[Ng sm,Ps0 hx,Ps0 ⟨rfl,hx⟩]
     ·rw[Ng (fun hh=>hx hh.2)]at hbad;exact absurd rfl hbad
    ·rw[Ps0 h,Ng (fun hh=>h hh.1)]
   rw[hres];clear hres hm;generalize (if er=0∧m<x then(7:Int)else(er:Int))=f at*;have HF:=Aj (xU p a 228 l t f (.pointer (some ⟨w.heap.size,0,none⟩)) (.pointer (some ⟨w.heap.size+1,0,none⟩)) _ (fun w'=>w'=W2) H.1 hbad
    (enters_of func228 kr rfl) (hU.mono fun r w' ⟨h1,h2⟩=>⟨⟨_,h1⟩,by rw[hW2,h2]⟩) (fun w' h=>by rw[h,hW2];exact H.1))
   have G0:=Aj g0;have HW2:=Aj hW2;clear h g0 bb bm hU hto hr hW2 hbad;go_enter func182,ntmps182;go_wp2_with (go_at_call 227;refine HF.1.mono ?_;rintro r w1 ⟨rfl,w2,rfl,rfl⟩;rw[HW2.1]);go_ret;exact⟨rfl,H.1.fail f,G0.1.trans (ag _ ⟨p,2,none⟩ _)⟩
 ·have hm:Wr.uint l a e m=(0,a,e):=by unfold Wr.uint;rw[Ps0 he]
  rw[hm];have HF:=Aj (xS p a l e (.func (.func 228) #[] #[.pointer (some ⟨w.heap.size,0,none⟩),.pointer (some ⟨w.heap.size+1,0,none⟩)]) _ H.1 he);have G0:=Aj g0;clear h g0 hm bb bm he hU hW2;go_enter func182,ntmps182;go_wp2_with (go_at_call 227;refine HF.1.mono ?_;rintro r w1 ⟨rfl,rfl⟩);go_ret;exact⟨rfl,H.1,G0.1⟩
end
end
section
section
open Go.RowKit Go.Shelf
def Quiet (w w':World):Prop:=∃n,w'=w.drewN n
theorem Quiet.below {w w'} (h:Quiet w w') (B):Below B w w':=by obtain⟨n,rfl⟩:=h;exact below_drewN (Ae _ _) n
theorem Quiet.grown {w w'} (h:Quiet w w') (row):w.grownBy w' row:=by obtain⟨n,rfl⟩:=h;exact⟨rfl,rfl,rfl,Nr _,fun _ _ _=>rfl⟩
def Wr.take (l:List UInt8) (a:Nat) (e n:Int):List UInt8×Nat×Int:=
 if e≠0 then([],a,e)else if n<0 then([],a,2)else if(l.length:Int)-a<n then([],a,3)else((l.drop a).take n.toNat,a+n.toNat,0)
theorem aN.cut {w} {B n c} {A} {l} (h:aN w B A n c l) {a k} (hk:a+k≤n):aN w B (if c=a then A else A.map (·.add a)) k (c-a) ((l.drop a).take k):=(h.drop om).take om
theorem L8 (_p a bx bn:Nat) (n) (w) (hn:w.cell? ⟨bn,0,none⟩=some (.int .i64 n)) (h0:n<0):
  Calls prog 168 #[.int .i64 (a:Int),.pointer (some ⟨bn,0,none⟩),.pointer (some ⟨bx,0,none⟩)] w fun r w'=>r= .returned (.tuple #[.slice none 0 0,.int .i64 0,.int .i64 2])∧w=w':=by
 go_enter func168,ntmps168;go_wp2;go_ret3;exact⟨rfl,rfl⟩
theorem L9 (p a bx bn) (l) (e n) (w) (h:aK w p l a e) (hb:w.cell? ⟨bx,0,none⟩=some (.pointer (some ⟨p,0,none⟩))) (hn:w.cell? ⟨bn,0,none⟩=some (.int .i64 n)) (h0:0≤n) (h1:(l.length:Int)-a<n):
  Calls prog 168 #[.int .i64 (a:Int),.pointer (some ⟨bn,0,none⟩),.pointer (some ⟨bx,0,none⟩)] w fun r w'=>r= .returned (.tuple #[.slice none 0 0,.int .i64 0,.int .i64 3])∧Quiet w w':=by
 have HL:=Aj (fun W (hW:aK W p l a e)=>iZ p a l e (a:Int) W hW om (by have:=h.len;omega));have H:=Aj h;clear h;go_enter func168,ntmps168;go_wp2_with fail;go_region_held3 (fun w'=>w'.cell? ⟨bn,0,none⟩=some (.int .i64 n)∧w'.cell? ⟨bx,0,none⟩=some (.pointer (some ⟨p,0,none⟩))) (first|exact⟨hn,hb⟩)
  ((go_at_call 167;refine(HL.1 _ (by exact H.1)).mono ?_;rintro r w1 ⟨rfl,rfl⟩))
 go_wp2;go_ret3;exact⟨rfl,1,rfl⟩
theorem Ow (p a bx bn n:Nat) (l) (e) (w) (h:aK w p l a e) (hb:w.cell? ⟨bx,0,none⟩=some (.pointer (some ⟨p,0,none⟩))) (hn:w.cell? ⟨bn,0,none⟩=some (.int .i64 (n:Int))) (h1:n≤l.length-a):
  Calls prog 168 #[.int .i64 (a:Int),.pointer (some ⟨bn,0,none⟩),.pointer (some ⟨bx,0,none⟩)] w fun r w'=>∃A3 c3,r= .returned (.tuple #[.slice A3 n c3,.int .i64 ((a:Int)+n),.int .i64 0])∧ah w' w.heap.size A3 n c3 ((l.drop a).take n)∧Below w.heap.size w w':=by
 have HL:=Aj (fun W (hW:aK W p l a e)=>iZ p a l e (a:Int) W hW om (by have:=h.len;omega));have H:=Aj h;have hp:=h.lt;obtain⟨A,m,c,k0,k1,k2,f1,f2,hr,h3,h4,h5,h6⟩:=h.cells;have hl:=Aj hr.len;have hnm:a+n≤m:=by have:=hl.1;omega
 have Hc:=Aj (hr.cut hnm);have i1:(0:Int)≤(a:Int):=om;have i2:(a:Int)≤(a:Int)+(n:Int):=om;have i3:(a:Int)+(n:Int)≤(m:Int):=om;have i4:(a:Int)+(n:Int)≤(c:Int):=om;have i5:(n:Int)≤(m:Int)-(a:Int):=om;have e1:Kept ((l.length:Int)-(a:Int)=(m:Int)-(a:Int)):=⟨by rw[←hl.1]⟩
 have e2:((a:Int)+(n:Int)).toNat=a+n:=om;have ew:IntKind.i64.wrap ((a:Int)+(n:Int))=(a:Int)+(n:Int):=by rw[AV];omega
 have hpl:p≤w.heap.size:=om;clear h hr;by_cases hca:c=a
 ·have hn0:n=0:=by omega
  subst hn0;obtain rfl:m=a:=om;subst hca;rw[Ps0 rfl,CZ]at Hc;have hn':w.cell? ⟨bn,0,none⟩=some (.int .i64 0):=hn;have hbx:=AR w _ hb;have hbn:=AR w _ hn;have e3:Kept ((l.length:Int)-(c:Int)=0):=⟨by have:=hl.1;omega⟩
  clear hn i2 i3 i4 i5 e1 e2 ew hnm h4 h5;have ew:IntKind.i64.wrap (c:Int)=(c:Int):=by rw[AV];omega
  go_enter func168,ntmps168;go_wp2_with fail;go_region_held3 (fun w'=>w'.cell? ⟨bn,0,none⟩=some (.int .i64 0)∧w'.cell? ⟨bx,0,none⟩=some (.pointer (some ⟨p,0,none⟩))) (first|exact⟨hn',hb⟩)
   ((go_at_call 167;refine(HL.1 _ (by exact H.1)).mono ?_;rintro r w1 ⟨rfl,rfl⟩;rw[e3.1]))
  go_wp2_with fail;go_region_held3 (fun w'=>w'.cell? ⟨bn,0,none⟩=some (.int .i64 0)∧w'.cell? ⟨bx,0,none⟩=some (.pointer (some ⟨p,0,none⟩))∧w'.cell? ⟨p,0,none⟩=some (.slice A c c)) (first|exact⟨hn',hb,k0⟩|exact k9)
   ((go_at_call 164;refine(fB _ _ _ p ((l.drop c).take 0) _ (by exact Hc.1) (by exact hpl) om).mono ?_;rintro r w1 ⟨A3,c3,rfl,ho,hbl⟩;have k9:w1.cell? ⟨bn,0,none⟩=some (.int .i64 0)∧w1.cell? ⟨bx,0,none⟩=some (.pointer (some ⟨p,0,none⟩))∧w1.cell? ⟨p,0,none⟩=some (.slice A c c):=⟨(hbl.cell (p:=⟨bn,0,none⟩) hbn).trans hn',(hbl.cell (p:=⟨bx,0,none⟩) hbx).trans hb,(hbl.cell (p:=⟨p,0,none⟩) hp).trans k0⟩))
  go_wp2;go_ret3;exact⟨A3,c3,sm,ho,dH (dH hbl)⟩
 ·have aiI:(a:Int)< (c:Int):=by omega
  rw[Ng hca]at Hc;have hbx:=AR w _ hb;have hbn:=AR w _ hn;go_enter func168,ntmps168;go_wp2_with fail;go_region_held3 (fun w'=>w'.cell? ⟨bn,0,none⟩=some (.int .i64 (n:Int))∧w'.cell? ⟨bx,0,none⟩=some (.pointer (some ⟨p,0,none⟩))) (first|exact⟨hn,hb⟩)
   ((go_at_call 167;refine(HL.1 _ (by exact H.1)).mono ?_;rintro r w1 ⟨rfl,rfl⟩;rw[e1.1]))
  go_wp2_with fail;go_region_held3 (fun w'=>w'.cell? ⟨bn,0,none⟩=some (.int .i64 (n:Int))∧w'.cell? ⟨bx,0,none⟩=some (.pointer (some ⟨p,0,none⟩))∧w'.cell? ⟨p,0,none⟩=some (.slice A m c)) (first|exact⟨hn,hb,k0⟩|exact k9)
   ((go_at_call 164;refine(fB _ _ _ p ((l.drop a).take n) _ (by exact Hc.1) (by exact hpl) om).mono ?_;rintro r w1 ⟨A3,c3,rfl,ho,hbl⟩;have k9:w1.cell? ⟨bn,0,none⟩=some (.int .i64 (n:Int))∧w1.cell? ⟨bx,0,none⟩=some (.pointer (some ⟨p,0,none⟩))∧w1.cell? ⟨p,0,none⟩=some (.slice A m c):=⟨(hbl.cell (p:=⟨bn,0,none⟩) hbn).trans hn,(hbl.cell (p:=⟨bx,0,none⟩) hbx).trans hb,(hbl.cell (p:=⟨p,0,none⟩) hp).trans k0⟩))
  go_wp2;go_ret3;exact⟨A3,c3,rfl,ho,dH (dH hbl)⟩
theorem below_grown {w w'} (h:Below w.heap.size w w') (row):w.grownBy w' row:=⟨h.os,h.tape,h.output,h.size,fun k hk _=>h.block k hk⟩
theorem ah.far {w} {base n c} {A} {l} (h:ah w base A n c l) {a} (ha:a.block<base) (v):ah (w.setCell a v) base A n c l:=
 h.apart (ag w a v) (fun r e=>by cases e;exact .inl fun e2=>by have:=(ae h _ e2).1;omega)
theorem fZ (p a) (l) (e n) (w) (h:aK w p l a e) (hn0: -9223372036854775808≤n) (hn1:n≤9223372036854775807):
  Calls prog 115 #[.pointer (some ⟨p,0,none⟩),.int .i64 n] w fun r w'=>∃A3 n3 c3,r= .returned (.slice A3 n3 c3)∧ah w' w.heap.size A3 n3 c3 (Wr.take l a e n).1∧aK w' p l (Wr.take l a e n).2.1 (Wr.take l a e n).2.2∧w.grownBy w' (some p):=by
 have bb:=((Boxed.new w 203 (.pointer (some ⟨p,0,none⟩))).alloc (.cells #[.int .i64 n] 3)).cell;have bm:=(Boxed.new (w.alloc (.cells #[.pointer (some ⟨p,0,none⟩)] 203)) 3 (.int .i64 n)).cell;have H:=Aj ((h.box (.cells #[.pointer (some ⟨p,0,none⟩)] 203)).box (.cells #[.int .i64 n] 3));have g0:w.grownBy ((w.alloc (.cells #[.pointer (some ⟨p,0,none⟩)] 203)).alloc (.cells #[.int .i64 n] 3)) (some p):=(Ga _ _ _).trans (Ga _ _ _);have hz2:((w.alloc (.cells #[.pointer (some ⟨p,0,none⟩)] 203)).alloc (.cells #[.int .i64 n] 3)).heap.size=w.heap.size+1+1:=sm;rw[AO]at bm;have hp:=h.lt;have hlen:=h.len;obtain⟨W2,hW2⟩:∃W2,W2=(w.alloc (.cells #[.pointer (some ⟨p,0,none⟩)] 203)).alloc (.cells #[.int .i64 n] 3):=⟨_,rfl⟩
 have HW2:=Aj hW2;have hbad:∀er:Int,er≠0→(Calls prog 168 #[.int .i64 (a:Int),.pointer (some ⟨w.heap.size+1,0,none⟩),.pointer (some ⟨w.heap.size,0,none⟩)] ((w.alloc (.cells #[.pointer (some ⟨p,0,none⟩)] 203)).alloc (.cells #[.int .i64 n] 3)) fun r w'=>r= .returned (.tuple #[.slice none 0 0,.int .i64 0,.int .i64 er])∧Quiet W2 w')→e=0→
   Calls prog 115 #[.pointer (some ⟨p,0,none⟩),.int .i64 n] w fun r w'=>∃A3 n3 c3,r= .returned (.slice A3 n3 c3)∧ah w' w.heap.size A3 n3 c3 []∧aK w' p l a er∧w.grownBy w' (some p):=by
  intro er her hU he;subst he;have HF:=Aj (nG p a 168 l 0 er (.pointer (some ⟨w.heap.size+1,0,none⟩)) (.pointer (some ⟨w.heap.size,0,none⟩)) _ (fun w'=>Quiet W2 w') H.1 her
   (enters_of func168 kr rfl) (hU.mono fun r w' ⟨h1,h2⟩=>⟨⟨_,h1⟩,h2⟩) (fun w' h=>by rw[hW2]at h;exact H.1.below (h.below (p+1)) om))
  have G0:=Aj g0;clear h g0 bb bm hU hW2 her;go_enter func115,ntmps115;go_wp2_with (go_at_call 165;refine HF.1.mono ?_;rintro r w1 ⟨rfl,w2,hq,rfl⟩);go_ret;rw[HW2.1]at hq;exact⟨none,0,0,rfl,ah.nil _ _,(H.1.below (hq.below (p+1)) om).fail er,(G0.1.trans (hq.grown _)).trans (ag _ ⟨p,2,none⟩ _)⟩
 by_cases he:e=0
 ·have he':=he;subst he;by_cases h0:n<0
  ·have hm:Wr.take l a 0 n=([],a,2):=by unfold Wr.take;rw[Ng sm,Ps0 h0]
   rw[hm];exact hbad 2 Ah ((L8 p a w.heap.size (w.heap.size+1) n _ bm h0).mono fun r w' ⟨h1,h2⟩=>⟨h1,0,by rw[hW2,h2];rfl⟩) rfl
  ·by_cases h1:(l.length:Int)-a<n
   ·have hm:Wr.take l a 0 n=([],a,3):=by unfold Wr.take;rw[Ng sm,Ng h0,Ps0 h1]
    rw[hm];exact hbad 3 Ah ((L9 p a w.heap.size (w.heap.size+1) l 0 n _ H.1 bb bm om h1).mono fun r w' ⟨h1,h2⟩=>⟨h1,by rw[hW2];exact h2⟩) rfl
   ·clear hbad;have hm:Wr.take l a 0 n=((l.drop a).take n.toNat,a+n.toNat,0):=by unfold Wr.take;rw[Ng sm,Ng h0,Ng h1]
    rw[hm];obtain⟨k,rfl⟩:=Ce (show 0≤n from om);simp only[lS]at hm⊢;have HF:=Aj (qy p a 168 l ((a:Int)+k) (.pointer (some ⟨w.heap.size+1,0,none⟩)) (.pointer (some ⟨w.heap.size,0,none⟩)) _ (fun V w'=>∃A3 c3,V= .slice A3 k c3∧ah w' W2.heap.size A3 k c3 ((l.drop a).take k)∧Below W2.heap.size W2 w') H.1
     (enters_of func168 kr rfl) ((Ow p a w.heap.size (w.heap.size+1) k l 0 _ H.1 bb bm om).mono fun r w' ⟨A3,c3,h1,h2,h3⟩=>⟨_,h1,A3,c3,rfl,by rw[hW2];exact h2,by rw[hW2];exact h3⟩)
     (fun V w' ⟨A3,c3,_,_,h⟩=>by rw[hW2]at h;exact H.1.below h (by rw[hz2];omega)))
    have G0:=Aj g0;have HM:=Aj (show a+k≤l.length from om);have Hz2:=Aj hz2;clear h g0 bb bm hW2 hm h0 h1 hz2;go_enter func115,ntmps115;go_wp2_with (go_at_call 165;refine HF.1.mono ?_;rintro r w1 ⟨V,rfl,w2,⟨A3,c3,rfl,ho,hbl⟩,rfl⟩);go_ret;rw[HW2.1]at ho hbl;have hm2:=(H.1.below hbl (by rw[Hz2.1];omega)).move (a+k) HM.1;rw[Hz2.1]at ho;exact⟨A3,k,c3,rfl,(ho.far (by show p<_;omega) _).base om,hm2,(G0.1.trans (below_grown hbl _)).trans (ag _ ⟨p,1,none⟩ _)⟩
 ·have hm:Wr.take l a e n=([],a,e):=by unfold Wr.take;rw[Ps0 he]
  rw[hm];have HF:=Aj (nE p a l e (.func (.func 168) #[] #[.pointer (some ⟨w.heap.size+1,0,none⟩),.pointer (some ⟨w.heap.size,0,none⟩)]) _ H.1 he);have G0:=Aj g0;clear h g0 hm bb bm he hbad hW2;go_enter func115,ntmps115;go_wp2_with (go_at_call 165;refine HF.1.mono ?_;rintro r w1 ⟨rfl,rfl⟩);go_ret;exact⟨none,0,0,rfl,ah.nil _ _,H.1,G0.1⟩
end
end
section
section
open Go.RowKit Go.Shelf
def Wr.aA (l:List UInt8) (r:Nat×Int×Nat) (m:Int):List UInt8×Int×Int:=
 if r.2.2≠0 then([],0,(r.2.2:Int))else if m<0∨m< (r.1:Int)then([],0,7)else if(l.length:Int)-r.2.1< (r.1:Int)then([],0,3)else((l.drop r.2.1.toNat).take r.1,r.2.1+(r.1:Int),0)
def Wr.string (l:List UInt8) (a:Nat) (e m:Int):List UInt8×Nat×Int:=
 if e≠0 then([],a,e)else if(Wr.aA l (Vi.get l (a:Int)) m).2.2≠0 then([],a,(Wr.aA l (Vi.get l (a:Int)) m).2.2)else((Wr.aA l (Vi.get l (a:Int)) m).1,(Wr.aA l (Vi.get l (a:Int)) m).2.1.toNat,0)
def XA (r:List UInt8×Int×Int):Value:= .tuple #[.string ⟨r.1.toArray⟩,.int .i64 r.2.1,.int .i64 r.2.2]
theorem zV (p a bx bm) (l) (e m) (w) (h:aK w p l a e) (hb:w.cell? ⟨bx,0,none⟩=some (.pointer (some ⟨p,0,none⟩))) (hm:w.cell? ⟨bm,0,none⟩=some (.int .i64 m)) (m1:m≤9223372036854775807):
  Calls prog 170 #[.int .i64 (a:Int),.pointer (some ⟨bx,0,none⟩),.pointer (some ⟨bm,0,none⟩)] w fun r w'=>r= .returned (XA (Wr.aA l (Vi.get l (a:Int)) m))∧w=w':=by
 have HL:=Aj (fun(t:Int) (h0:0≤t) (h1:t≤9223372036854775807)=>iZ p a l e t w h h0 h1);obtain⟨A,n,c,k0,k1,k2,f1,f2,hr,h3,h4,h5,h6⟩:=h.cells;have HG:=Aj (nC A n c p l (a:Int) w hr om om);have hl:=Aj hr.len;have HR:=Aj hr;clear h hr;obtain⟨r,hr⟩:∃r,Vi.get l (a:Int)=r:=⟨_,rfl⟩
 have hto:=fun x t (hh:r=(x,t,0))=>Vi.gX (hr.trans hh)
 rw[hr]at HG⊢;clear hr;obtain⟨x,t,er⟩:=r;unfold zQ at HG;simp only at HG;by_cases h0:er=0
 ·subst h0;obtain⟨ht1,ht2⟩:=hto x t rfl;obtain⟨tn,rfl⟩:=Ce (show 0≤t from om);have ht3:(tn:Int)≤(n:Int):=by have:=hl.1;omega
  clear hto ht2;by_cases hm0:m<0
  ·have hres:Kept (Wr.aA l (x,(tn:Int),0) m=([],0,7)):=⟨by unfold Wr.aA;rw[Ng sm,Ps0 (.inl hm0)]⟩
   rw[hres.1];go_enter func170,ntmps170;go_wp2_with (go_at_call 118;refine HG.1.mono ?_;rintro r w1 ⟨rfl,rfl⟩);go_ret3;exact⟨rfl,rfl⟩
  ·have Xu:0≤m:=by omega
   by_cases hmx:m< (x:Int)
   ·have hres:Kept (Wr.aA l (x,(tn:Int),0) m=([],0,7)):=⟨by unfold Wr.aA;rw[Ng sm,Ps0 (.inr hmx)]⟩
    rw[hres.1];clear hm0;go_enter func170,ntmps170;go_wp2_with (go_at_call 118;refine HG.1.mono ?_;rintro r w1 ⟨rfl,rfl⟩);go_ret3;exact⟨rfl,rfl⟩
   ·have aiJ:(x:Int)≤m:=by omega
    have e1:Kept ((l.length:Int)-(tn:Int)=(n:Int)-(tn:Int)):=⟨by rw[←hl.1]⟩
    by_cases GI:(n:Int)-(tn:Int)< (x:Int)
    ·have hres:Kept (Wr.aA l (x,(tn:Int),0) m=([],0,3)):=⟨by unfold Wr.aA;rw[Ng sm,Ng (by simp;omega),Ps0 (by rw[←hl.1];exact GI)]⟩
     rw[hres.1];clear hm0 hmx;go_enter func170,ntmps170;go_wp2_with (first
      |(go_at_call 118;refine HG.1.mono ?_;rintro r w1 ⟨rfl,rfl⟩)
      |(go_at_call 167;refine(HL.1 _ om om).mono ?_;rintro r w1 ⟨rfl,rfl⟩;rw[e1.1]))
     go_ret3;exact⟨rfl,rfl⟩
    ·have aat:(x:Int)≤(n:Int)-(tn:Int):=by omega
     have hres:Kept (Wr.aA l (x,(tn:Int),0) m=((l.drop tn).take x,(tn:Int)+(x:Int),0)):=⟨by unfold Wr.aA;rw[Ng sm,Ng (by simp;omega),Ng (by rw[←hl.1];exact GI)];rfl⟩
     rw[hres.1];have hcut:=HR.1.cut (show tn+x≤n from om);clear hm0 hmx GI;by_cases hct:c=tn
     ·rw[Ps0 hct]at hcut;have kc:=bJ w p A x (c-tn) _ hcut;obtain rfl:x=0:=om;obtain rfl:n=c:=om;subst hct;rw[CZ]at kc;clear hcut e1;have e1:Kept ((l.length:Int)-(n:Int)=0):=⟨by have:=hl.1;omega⟩
      go_enter func170,ntmps170;go_wp2_with (first
       |(go_at_call 118;refine HG.1.mono ?_;rintro r w1 ⟨rfl,rfl⟩)
       |(go_at_call 167;refine(HL.1 _ om om).mono ?_;rintro r w1 ⟨rfl,rfl⟩;rw[e1.1]))
      go_ret3;exact⟨by simp[XA],rfl⟩
     ·rw[Ng hct]at hcut;have kc:=bJ w p _ x (c-tn) _ hcut;have aiK:(tn:Int)< (c:Int):=om;have e2:((tn:Int)+(x:Int)).toNat=tn+x:=om;have i3:(tn:Int)+(x:Int)≤(n:Int):=om;have i4:(tn:Int)+(x:Int)≤(c:Int):=om;clear hcut hct;generalize (l.drop tn).take x=S at*;go_enter func170,ntmps170;go_wp2_with (first
       |(go_at_call 118;refine HG.1.mono ?_;rintro r w1 ⟨rfl,rfl⟩)
       |(go_at_call 167;refine(HL.1 _ om om).mono ?_;rintro r w1 ⟨rfl,rfl⟩;rw[e1.1]))
      go_ret3;exact⟨rfl,rfl⟩
 ·have hres:Kept (Wr.aA l (x,t,er) m=([],0,(er:Int))):=⟨by unfold Wr.aA;rw[Ps0 (by simpa using h0)]⟩
  rw[hres.1];have h0':((er:Int)==0)=false:=by simp;omega
  have aau:((er:Int) !=0)=true:=by simp;omega
  clear h0 hto;go_enter func170,ntmps170;go_wp2_with (go_at_call 118;refine HG.1.mono ?_;rintro r w1 ⟨rfl,rfl⟩);go_ret3;exact⟨rfl,rfl⟩
theorem Wr.GJ {l} {a:Nat} {m} (h:(Wr.aA l (Vi.get l (a:Int)) m).2.2=0):0≤(Wr.aA l (Vi.get l (a:Int)) m).2.1∧(Wr.aA l (Vi.get l (a:Int)) m).2.1≤l.length:=by
 obtain⟨r,hr⟩:∃r,Vi.get l (a:Int)=r:=⟨_,rfl⟩
 rw[hr]at h⊢;obtain⟨x,t,er⟩:=r;unfold Wr.aA at h⊢;by_cases h0:er=0
 ·subst h0;have ht:=Vi.gX hr;rw[Ng sm]at h⊢;split
  ·rename_i h1;rw[Ps0 h1]at h;simp at h
  ·rename_i h1
   rw[Ng h1]at h;split
   ·rename_i h2;rw[Ps0 h2]at h;simp at h
   ·simp only at*;omega
 ·rw[Ps0 (by simpa using h0)]at h;simp at h;omega
theorem GK (p a) (l) (e m) (w) (h:aK w p l a e) (m1:m≤9223372036854775807):
  Calls prog 119 #[.pointer (some ⟨p,0,none⟩),.int .i64 m] w fun r w'=>r= .returned (.string ⟨(Wr.string l a e m).1.toArray⟩)∧aK w' p l (Wr.string l a e m).2.1 (Wr.string l a e m).2.2∧w.grownBy w' (some p):=by
 have bb:=((Boxed.new w 203 (.pointer (some ⟨p,0,none⟩))).alloc (.cells #[.int .i64 m] 3)).cell;have bm:=(Boxed.new (w.alloc (.cells #[.pointer (some ⟨p,0,none⟩)] 203)) 3 (.int .i64 m)).cell;have H:=Aj ((h.box (.cells #[.pointer (some ⟨p,0,none⟩)] 203)).box (.cells #[.int .i64 m] 3));have g0:w.grownBy ((w.alloc (.cells #[.pointer (some ⟨p,0,none⟩)] 203)).alloc (.cells #[.int .i64 m] 3)) (some p):=(Ga _ _ _).trans (Ga _ _ _);rw[AO]at bm;have hU:=zV p a w.heap.size (w.heap.size+1) l e m _ H.1 bb bm m1;obtain⟨W2,hW2⟩:∃W2,W2=(w.alloc (.cells #[.pointer (some ⟨p,0,none⟩)] 203)).alloc (.cells #[.int .i64 m] 3):=⟨_,rfl⟩
 have HW2:=Aj hW2;by_cases he:e=0
 ·subst he;obtain⟨s,hs⟩:∃s,Wr.aA l (Vi.get l (a:Int)) m=s:=⟨_,rfl⟩
  have hto:=Wr.GJ (l:=l) (a:=a) (m:=m);have hmm:Wr.string l a 0 m=if s.2.2≠0 then([],a,s.2.2)else(s.1,s.2.1.toNat,0):=by unfold Wr.string;rw[Ng sm,hs]
  rw[hmm];rw[hs]at hU hto;obtain⟨S,t,er⟩:=s;unfold XA at hU;simp only at hU hto⊢;by_cases h0:er=0
  ·subst h0;obtain⟨ht0,ht1⟩:=hto rfl;rw[Ng sm];have HF:=Aj (vB p a 170 l t (.pointer (some ⟨w.heap.size,0,none⟩)) (.pointer (some ⟨w.heap.size+1,0,none⟩)) _ (fun V w'=>V= .string ⟨S.toArray⟩∧w'=W2) H.1
    (enters_of func170 kr rfl) (hU.mono fun r w' ⟨h1,h2⟩=>⟨_,h1,rfl,by rw[hW2,h2]⟩) (fun V w' ⟨_,h⟩=>by rw[h,hW2];exact H.1))
   have G0:=Aj g0;have ht2:((t.toNat:Nat):Int)=t:=om;have HM:=Aj (H.1.move t.toNat om);rw[ht2]at HM;clear h g0 hmm bb bm hU hto hs hW2 ht2;go_enter func119,ntmps119;go_wp2_with (go_at_call 169;refine HF.1.mono ?_;rintro r w1 ⟨V,rfl,w2,⟨rfl,rfl⟩,rfl⟩;rw[HW2.1]);go_ret;exact⟨rfl,HM.1,G0.1.trans (ag _ ⟨p,1,none⟩ _)⟩
  ·rw[Ps0 h0];have HF:=Aj (sj p a 170 l t er (.pointer (some ⟨w.heap.size,0,none⟩)) (.pointer (some ⟨w.heap.size+1,0,none⟩)) _ (fun w'=>w'=W2) H.1 h0
    (enters_of func170 kr rfl) (hU.mono fun r w' ⟨h1,h2⟩=>⟨⟨_,h1⟩,by rw[hW2,h2]⟩) (fun w' h=>by rw[h,hW2];exact H.1))
   have G0:=Aj g0;clear h g0 bb bm hU hto hs hW2 hmm h0;go_enter func119,ntmps119;go_wp2_with (go_at_call 169;refine HF.1.mono ?_;rintro r w1 ⟨rfl,w2,rfl,rfl⟩;rw[HW2.1]);go_ret;exact⟨rfl,H.1.fail er,G0.1.trans (ag _ ⟨p,2,none⟩ _)⟩
 ·have hmm:Wr.string l a e m=([],a,e):=by unfold Wr.string;rw[Ps0 he]
  rw[hmm];have HF:=Aj (rZ p a l e (.func (.func 170) #[] #[.pointer (some ⟨w.heap.size,0,none⟩),.pointer (some ⟨w.heap.size+1,0,none⟩)]) _ H.1 he);have G0:=Aj g0;clear h g0 hmm bb bm he hU hW2;go_enter func119,ntmps119;go_wp2_with (go_at_call 169;refine HF.1.mono ?_;rintro r w1 ⟨rfl,rfl⟩);go_ret;exact⟨rfl,H.1,G0.1⟩
end
end
section
section
open Go.RowKit Go.Shelf
def Wr.aC (l:List UInt8) (a:Nat) (id:UInt8):List UInt8×Int×Int:=
 if h:a<l.length then
  if l[a]≠id then([],0,11)
  else
   let r:=Vi.get l ((a:Int)+1)
   if r.2.2≠0 then([],0,(r.2.2:Int))
   else if(l.length:Int)-r.2.1-4< (r.1:Int)then([],0,3)
   else if aL.bN ((l.drop a).take (r.2.1.toNat+r.1+4-a))=false then([],0,12)
   else((l.drop r.2.1.toNat).take r.1,r.2.1+(r.1:Int)+4,0)
 else([],0,3)
def fV (w:World) (s:List UInt8×Int×Int) (r:Ending) (w':World):Prop:=
 (s.2.2≠0∧r= .returned (.tuple #[.slice none 0 0,.int .i64 s.2.1,.int .i64 s.2.2])∧Quiet w w')∨(s.2.2=0∧∃A3 n3 c3,r= .returned (.tuple #[.slice A3 n3 c3,.int .i64 s.2.1,.int .i64 0])∧ah w' w.heap.size A3 n3 c3 s.1∧Below w.heap.size w w')
theorem fV.bad {w w'} {tt er} (h:er≠0) (q:Quiet w w'):fV w ([],tt,er) (.returned (.tuple #[.slice none 0 0,.int .i64 tt,.int .i64 er])) w':= .inl ⟨h,rfl,q⟩
theorem xV (p a bx bi) (l) (e) (id) (w) (h:aK w p l a e) (hb:w.cell? ⟨bx,0,none⟩=some (.pointer (some ⟨p,0,none⟩))) (hi:w.cell? ⟨bi,0,none⟩=some (.int .u8 (id.toNat:Int))) (ht:eD w):
  Calls prog 166 #[.int .i64 (a:Int),.pointer (some ⟨bx,0,none⟩),.pointer (some ⟨bi,0,none⟩)] w (fV w (Wr.aC l a id)):=by
 have hlen:=h.len;have HL:=Aj (fun(W:World) (hW:aK W p l a e) (t:Int) (h0:0≤t) (h1:t≤9223372036854775807)=>iZ p a l e t W hW h0 h1);have hp:=h.lt;obtain⟨A,n,c,k0,k1,k2,f1,f2,hr,h3,h4,h5,h6⟩:=h.cells;have hl:=Aj hr.len;have HG:=Aj (fun(W:World) (hW:aN W p A n c l)=>nC A n c p l ((a:Int)+1) W hW om om);have HR:=Aj hr;have H:=Aj h;have HT:=Aj ht;have e1:Kept ((l.length:Int)-(a:Int)=(n:Int)-(a:Int)):=⟨by rw[←hl.1]⟩
 clear ht;by_cases ha:a<l.length
 ·have h7:(a:Int)< (n:Int):=by have:=hl.1;omega
  have h8:(1:Int)≤(n:Int)-(a:Int):=om;obtain⟨b,off,rfl,hbp,hcell⟩:=hr.at_ ha;clear h hr;by_cases hid:l[a]=id
  ·have XB:Kept (l[a]=id):=⟨hid⟩
   rw[hid]at hcell;clear hid;obtain⟨r,hr⟩:∃r,Vi.get l ((a:Int)+1)=r:=⟨_,rfl⟩
   have hto:=fun x t (hh:r=(x,t,0))=>Vi.gX (a:=a+1) (by rw[Int.natCast_add];exact hr.trans hh)
   rw[hr]at HG;have GL:Kept (Wr.aC l a id=if r.2.2≠0 then([],0,(r.2.2:Int))else if(l.length:Int)-r.2.1-4< (r.1:Int)then([],0,3)else if aL.bN ((l.drop a).take (r.2.1.toNat+r.1+4-a))=false then([],0,12)else((l.drop r.2.1.toNat).take r.1,r.2.1+(r.1:Int)+4,0)):=⟨by
    unfold Wr.aC;rw[dif_pos ha,Ng (by simpa using XB.1),hr]⟩
   rw[GL.1];clear hr;obtain⟨x,t,er⟩:=r;unfold zQ at HG;simp only at HG⊢;by_cases h0:er=0
   ·subst h0;rw[Ng sm];obtain⟨ht1,ht2⟩:=hto x t rfl;obtain⟨tn,rfl⟩:=Ce (show 0≤t from om);have ht3:(tn:Int)≤(n:Int):=by have:=hl.1;omega
    have ht4:(a:Int)+1< (tn:Int):=om;have e3:Kept ((l.length:Int)-(tn:Int)=(n:Int)-(tn:Int)):=⟨by rw[←hl.1]⟩
    clear hto ht2 ht1;simp only[lS];by_cases GI:(n:Int)-(tn:Int)-4< (x:Int)
    ·rw[Ps0 (by rw[e3.1];exact GI)];by_cases hneg:(n:Int)-(tn:Int)-4<0
     ·go_enter func166,ntmps166;go_wp2_with (go_at_call 167;refine(HL.1 _ (by exact H.1) _ om om).mono ?_;rintro r w1 ⟨rfl,rfl⟩;rw[e1.1]);go_quiet (fail);go_wp2_with (first
       |(go_at_call 118;refine(HG.1 _ (by exact HR.1)).mono ?_;rintro r w1 ⟨rfl,rfl⟩)
       |(go_at_call 167;refine(HL.1 _ (by exact H.1) _ om om).mono ?_;rintro r w1 ⟨rfl,rfl⟩;rw[e3.1]))
      go_ret3;exact fV.bad Ah ⟨_,rfl⟩
     ·have hneg':0≤(n:Int)-(tn:Int)-4:=by omega
      clear hneg;go_enter func166,ntmps166;go_wp2_with (go_at_call 167;refine(HL.1 _ (by exact H.1) _ om om).mono ?_;rintro r w1 ⟨rfl,rfl⟩;rw[e1.1]);go_quiet (fail);go_wp2_with (first
       |(go_at_call 118;refine(HG.1 _ (by exact HR.1)).mono ?_;rintro r w1 ⟨rfl,rfl⟩)
       |(go_at_call 167;refine(HL.1 _ (by exact H.1) _ om om).mono ?_;rintro r w1 ⟨rfl,rfl⟩;rw[e3.1]))
      go_ret3;exact fV.bad Ah ⟨_,rfl⟩
    ·rw[Ng (by rw[e3.1];exact GI)];have aat:(x:Int)≤(n:Int)-(tn:Int)-4:=om;have hneg':0≤(n:Int)-(tn:Int)-4:=om;have e2:((tn:Int)+(x:Int)+4).toNat=tn+x+4:=om;have e4:((tn:Int)+(x:Int)).toNat=tn+x:=om;have i1:(a:Int)≤(tn:Int)+(x:Int)+4:=om;have i2:(tn:Int)+(x:Int)+4≤(n:Int):=om;have i3:(tn:Int)+(x:Int)+4≤(c:Int):=om;have i4:(a:Int)< (c:Int):=om;have i5:(tn:Int)< (c:Int):=om;have i6:(tn:Int)+(x:Int)≤(n:Int):=om;have i7:(tn:Int)+(x:Int)≤(c:Int):=om;have c1:=HR.1.cut (a:=a) (k:=tn+x+4-a) om;have c2:=HR.1.cut (a:=tn) (k:=x) om;rw[Ng om]at c1 c2;simp only[DV,add_plain]at c1 c2;have hpl:p≤w.heap.size:=om;obtain⟨ck,hck⟩:∃b,aL.bN ((l.drop a).take (tn+x+4-a))=b:=⟨_,rfl⟩
     rw[hck];have HC:=Aj (fun(W:World) (hW:aN W p (some ⟨b,off+a,none⟩) (tn+x+4-a) (c-a) ((l.drop a).take (tn+x+4-a))) (hT:eD W)=>wF _ _ _ _ W p hW hT);rw[hck]at HC;have C1:=Aj c1;have C2:=Aj c2;clear c1 c2 hck GI;cases ck with
     |false=>
      rw[Ps0 rfl];go_enter func166,ntmps166;go_wp2_with (go_at_call 167;refine(HL.1 _ (by exact H.1) _ om om).mono ?_;rintro r w1 ⟨rfl,rfl⟩;rw[e1.1]);go_quiet (fail);go_wp2_with (first
       |(go_at_call 118;refine(HG.1 _ (by exact HR.1)).mono ?_;rintro r w1 ⟨rfl,rfl⟩)
       |(go_at_call 167;refine(HL.1 _ (by exact H.1) _ om om).mono ?_;rintro r w1 ⟨rfl,rfl⟩;rw[e3.1])
       |(go_at_call 116;refine(HC.1 _ (by exact C1.1) (by exact HT.1)).mono ?_;rintro r w1 ⟨rfl,rfl⟩))
      go_ret3;exact fV.bad Ah ⟨_,rfl⟩
     |true=>
      rw[Ng sm];go_enter func166,ntmps166;go_wp2_with (go_at_call 167;refine(HL.1 _ (by exact H.1) _ om om).mono ?_;rintro r w1 ⟨rfl,rfl⟩;rw[e1.1]);go_quiet (fail);go_wp2_with (first
       |(go_at_call 118;refine(HG.1 _ (by exact HR.1)).mono ?_;rintro r w1 ⟨rfl,rfl⟩)
       |(go_at_call 167;refine(HL.1 _ (by exact H.1) _ om om).mono ?_;rintro r w1 ⟨rfl,rfl⟩;rw[e3.1])
       |(go_at_call 116;refine(HC.1 _ (by exact C1.1) (by exact HT.1)).mono ?_;rintro r w1 ⟨rfl,rfl⟩)
       |(go_at_call 164;refine(fB _ _ _ p ((l.drop tn).take x) _ (by exact C2.1) (by exact hpl) om).mono ?_;rintro r w1 ⟨A3,c3,rfl,ho,hbl⟩))
      go_ret3;exact .inr ⟨rfl,A3,x,c3,rfl,ho,(Quiet.below ⟨_,rfl⟩ _).trans hbl⟩
   ·have h0':((er:Int)==0)=false:=by simp;omega
    have aau:((er:Int) !=0)=true:=by simp;omega
    have h0n:Kept ((er:Int)≠0):=⟨om⟩
    rw[Ps0 (by simpa using h0)];clear h0 hto;go_enter func166,ntmps166;go_wp2_with (go_at_call 167;refine(HL.1 _ (by exact H.1) _ om om).mono ?_;rintro r w1 ⟨rfl,rfl⟩;rw[e1.1]);go_quiet (fail);go_wp2_with (first
     |(go_at_call 118;refine(HG.1 _ (by exact HR.1)).mono ?_;rintro r w1 ⟨rfl,rfl⟩))
    go_ret3;exact fV.bad h0n.1 ⟨_,rfl⟩
  ·have GL:Kept (Wr.aC l a id=([],0,11)):=⟨by unfold Wr.aC;rw[dif_pos ha,Ps0 (by simpa using hid)]⟩
   rw[GL.1];have hne:l[a].toNat≠id.toNat:=fun h=>hid (UInt8.toNat_inj.1 h)
   generalize l[a].toNat=v at*;generalize id.toNat=v' at*;have hnb:((v:Int)==(v':Int))=false:=by simp;omega
   have hnb':((v:Int) !=(v':Int))=true:=by simp;omega
   clear hid hne;go_enter func166,ntmps166;go_wp2_with (go_at_call 167;refine(HL.1 _ (by exact H.1) _ om om).mono ?_;rintro r w1 ⟨rfl,rfl⟩;rw[e1.1]);go_quiet (fail);go_wp2_with fail;go_ret3;exact fV.bad Ah ⟨_,rfl⟩
 ·have GL:Kept (Wr.aC l a id=([],0,3)):=⟨by unfold Wr.aC;rw[dif_neg ha]⟩
  rw[GL.1];have e2:Kept ((n:Int)-(a:Int)=0):=⟨by have:=hl.1;omega⟩
  clear h hr;go_enter func166,ntmps166;go_wp2_with (go_at_call 167;refine(HL.1 _ (by exact H.1) _ om om).mono ?_;rintro r w1 ⟨rfl,rfl⟩;rw[e1.1,e2.1]);go_ret3;exact fV.bad Ah ⟨0,rfl⟩
end
end
section
section
open Go.RowKit Go.Shelf
def Wr.jb (l:List UInt8) (a:Nat) (e:Int) (id:UInt8):List UInt8×Nat×Int:=
 if e≠0 then([],a,e)else if(Wr.aC l a id).2.2≠0 then([],a,(Wr.aC l a id).2.2)else((Wr.aC l a id).1,(Wr.aC l a id).2.1.toNat,0)
theorem Wr.qz {l} {a} {id} (h:(Wr.aC l a id).2.2=0):0≤(Wr.aC l a id).2.1∧(Wr.aC l a id).2.1≤l.length:=by
 unfold Wr.aC at h⊢;by_cases ha:a<l.length
 ·rw[dif_pos ha]at h⊢;by_cases hid:l[a]≠id
  ·rw[Ps0 hid]at h;simp at h
  ·rw[Ng hid]at h⊢;obtain⟨r,hr⟩:∃r,Vi.get l ((a:Int)+1)=r:=⟨_,rfl⟩
   rw[hr]at h⊢;have hto:=fun x t (hh:r=(x,t,0))=>Vi.gX (a:=a+1) (by rw[Int.natCast_add];exact hr.trans hh)
   obtain⟨x,t,er⟩:=r;simp only at h⊢;by_cases h0:er=0
   ·subst h0;have:=hto x t rfl;rw[Ng sm]at h⊢;split
    ·rename_i h1;rw[Ps0 h1]at h;simp at h
    ·rename_i h1
     rw[Ng h1]at h;split
     ·rename_i h2;rw[Ps0 h2]at h;simp at h
     ·simp only;omega
   ·rw[Ps0 h0]at h;simp at h;omega
 ·rw[dif_neg ha]at h;simp at h
theorem qA (p a) (l) (e) (id) (w) (h:aK w p l a e) (ht:eD w):
  Calls prog 113 #[.pointer (some ⟨p,0,none⟩),.int .u8 (id.toNat:Int)] w fun r w'=>∃A3 n3 c3,r= .returned (.slice A3 n3 c3)∧ah w' w.heap.size A3 n3 c3 (Wr.jb l a e id).1∧aK w' p l (Wr.jb l a e id).2.1 (Wr.jb l a e id).2.2∧w.grownBy w' (some p):=by
 have bb:=((Boxed.new w 203 (.pointer (some ⟨p,0,none⟩))).alloc (.cells #[.int .u8 (id.toNat:Int)] 5)).cell;have bm:=(Boxed.new (w.alloc (.cells #[.pointer (some ⟨p,0,none⟩)] 203)) 5 (.int .u8 (id.toNat:Int))).cell;have H:=Aj ((h.box (.cells #[.pointer (some ⟨p,0,none⟩)] 203)).box (.cells #[.int .u8 (id.toNat:Int)] 5));have g0:w.grownBy ((w.alloc (.cells #[.pointer (some ⟨p,0,none⟩)] 203)).alloc (.cells #[.int .u8 (id.toNat:Int)] 5)) (some p):=(Ga _ _ _).trans (Ga _ _ _);have hz2:((w.alloc (.cells #[.pointer (some ⟨p,0,none⟩)] 203)).alloc (.cells #[.int .u8 (id.toNat:Int)] 5)).heap.size=w.heap.size+1+1:=sm;rw[AO]at bm;have hp:=h.lt;have hU:=xV p a w.heap.size (w.heap.size+1) l e id _ H.1 bb bm ((ht.alloc _).alloc _);obtain⟨W2,hW2⟩:∃W2,W2=(w.alloc (.cells #[.pointer (some ⟨p,0,none⟩)] 203)).alloc (.cells #[.int .u8 (id.toNat:Int)] 5):=⟨_,rfl⟩
 have HW2:=Aj hW2;by_cases he:e=0
 ·subst he;obtain⟨s,hs⟩:∃s,Wr.aC l a id=s:=⟨_,rfl⟩
  have hto:=Wr.qz (l:=l) (a:=a) (id:=id);have hmm:Wr.jb l a 0 id=if s.2.2≠0 then([],a,s.2.2)else(s.1,s.2.1.toNat,0):=by unfold Wr.jb;rw[Ng sm,hs]
  rw[hmm];rw[hs]at hU hto;obtain⟨S,t,er⟩:=s;unfold fV at hU;simp only at hU hto⊢;by_cases h0:er=0
  ·subst h0;obtain⟨ht0,ht1⟩:=hto rfl;rw[Ng sm];have HF:=Aj (qy p a 166 l t (.pointer (some ⟨w.heap.size,0,none⟩)) (.pointer (some ⟨w.heap.size+1,0,none⟩)) _ (fun V w'=>∃A3 n3 c3,V= .slice A3 n3 c3∧ah w' W2.heap.size A3 n3 c3 S∧Below W2.heap.size W2 w') H.1
    (enters_of func166 kr rfl) (hU.mono fun r w' hh=>by
     rcases hh with⟨h1,_⟩|⟨_,A3,n3,c3,h1,h2,h3⟩
     ·exact absurd rfl h1
     ·exact⟨_,h1,A3,n3,c3,rfl,by rw[hW2];exact h2,by rw[hW2];exact h3⟩)
    (fun V w' ⟨A3,n3,c3,_,_,h⟩=>by rw[hW2]at h;exact H.1.below h (by rw[hz2];omega)))
   have G0:=Aj g0;have Hz2:=Aj hz2;have ht2:Kept (((t.toNat:Nat):Int)=t):=⟨om⟩
   have ht3:t.toNat≤l.length:=om;clear h g0 hmm bb bm hU hto hs hW2 hz2 ht;go_enter func113,ntmps113;go_wp2_with (go_at_call 165;refine HF.1.mono ?_;rintro r w1 ⟨V,rfl,w2,⟨A3,n3,c3,rfl,ho,hbl⟩,rfl⟩);go_ret;rw[HW2.1]at ho hbl;have hm2:=(H.1.below hbl (by rw[Hz2.1];omega)).move t.toNat ht3;rw[ht2.1]at hm2;rw[Hz2.1]at ho;exact⟨A3,n3,c3,rfl,(ho.far (by show p<_;omega) _).base om,hm2,(G0.1.trans (below_grown hbl _)).trans (ag _ ⟨p,1,none⟩ _)⟩
  ·rw[Ps0 h0];have HF:=Aj (nG p a 166 l t er (.pointer (some ⟨w.heap.size,0,none⟩)) (.pointer (some ⟨w.heap.size+1,0,none⟩)) _ (fun w'=>Quiet W2 w') H.1 h0
    (enters_of func166 kr rfl) (hU.mono fun r w' hh=>by
     rcases hh with⟨_,h1,h2⟩|⟨h1,_⟩
     ·exact⟨⟨_,h1⟩,by rw[hW2];exact h2⟩
     ·exact absurd h1 h0)
    (fun w' h=>by rw[hW2]at h;exact H.1.below (h.below (p+1)) om))
   have G0:=Aj g0;clear h g0 bb bm hU hto hs hW2 hmm h0 ht;go_enter func113,ntmps113;go_wp2_with (go_at_call 165;refine HF.1.mono ?_;rintro r w1 ⟨rfl,w2,hq,rfl⟩);go_ret;rw[HW2.1]at hq;exact⟨none,0,0,rfl,ah.nil _ _,(H.1.below (hq.below (p+1)) om).fail er,(G0.1.trans (hq.grown _)).trans (ag _ ⟨p,2,none⟩ _)⟩
 ·have hmm:Wr.jb l a e id=([],a,e):=by unfold Wr.jb;rw[Ps0 he]
  rw[hmm];have HF:=Aj (nE p a l e (.func (.func 166) #[] #[.pointer (some ⟨w.heap.size,0,none⟩),.pointer (some ⟨w.heap.size+1,0,none⟩)]) _ H.1 he);have G0:=Aj g0;clear h g0 hmm bb bm he hU hW2 ht;go_enter func113,ntmps113;go_wp2_with (go_at_call 165;refine HF.1.mono ?_;rintro r w1 ⟨rfl,rfl⟩);go_ret;exact⟨none,0,0,rfl,ah.nil _ _,H.1,G0.1⟩
end
end
section
section
open Go.RowKit
theorem Wr.jE (id) (d):(Wr.frame id d).length=1+(Vi.enc d.length).length+d.length+4:=by
 unfold Wr.frame Wr.str;rw[aL.iY,Lc,La];omega
theorem Wr.zX (id) (d):∃q,Wr.frame id d=[id]++Vi.enc d.length++(d++q)∧q.length=4:=by
 refine⟨aL.four (aL.sum (id::Wr.str d)),?_,by simp[aL.four]⟩;unfold Wr.frame Wr.str aL.app;simp
theorem Wr.su (P R d) (id) (hd:d.length<18446744073709551616):Wr.jb (P++Wr.frame id d++R) P.length 0 id=(d,P.length+(Wr.frame id d).length,0):=by
 obtain⟨q,hq,hq4⟩:=Wr.zX id d;have hl:=Wr.jE id d;have hlen:(P++Wr.frame id d++R).length=P.length+(Wr.frame id d).length+R.length:=by simp;omega
 have ha:P.length< (P++Wr.frame id d++R).length:=om;have aav:(P++Wr.frame id d++R)[P.length]=id:=by
  have:(P++Wr.frame id d++R)[P.length]? =some id:=by
   rw[Af,Bq Ai,hq];simp
  exact(kH.1 this).2
 have hget:Vi.get (P++Wr.frame id d++R) ((P.length:Int)+1)=(d.length,((P.length+1+(Vi.enc d.length).length:Nat):Int),0):=by
  have h:=Vi.xN (P++[id]) d.length (d++q++R) hd;have e:P++Wr.frame id d++R=P++[id]++Vi.enc d.length++(d++q++R):=by rw[hq];simp
  rw[e];rw[La]at h;simpa using h
 have GL:Wr.aC (P++Wr.frame id d++R) P.length id=(d,((P.length+(Wr.frame id d).length:Nat):Int),0):=by
  unfold Wr.aC;rw[dif_pos ha,Ng (by rw[aav];simp),hget];simp only;rw[Ng sm,Ng (by rw[hlen];omega)];have e1:(P.length+1+(Vi.enc d.length).length:Nat)+d.length+4-P.length=(Wr.frame id d).length:=om;rw[lS,e1];have e2:((P++Wr.frame id d++R).drop P.length).take (Wr.frame id d).length=Wr.frame id d:=by
   rw[Af,CW,Dv]
  have e3:aL.bN (Wr.frame id d)=true:=aL.rA _;rw[e2,e3,Ng sm];have e4:((P++Wr.frame id d++R).drop (P.length+1+(Vi.enc d.length).length)).take d.length=d:=by
   have e:P++Wr.frame id d++R=(P++[id]++Vi.enc d.length)++(d++(q++R)):=by rw[hq];simp
   have e5:P.length+1+(Vi.enc d.length).length=(P++[id]++Vi.enc d.length).length:=by simp;omega
   rw[e,e5,CW,Dv]
  rw[e4];simp only[ay,true_and,Bi];omega
 unfold Wr.jb;rw[Ng sm,GL];simp only[ne_eq,Bw,Dx,lS]
theorem Wr.GM (P R d) (m) (hd:d.length<18446744073709551616) (hm:(d.length:Int)≤m):Wr.string (P++Wr.str d++R) P.length 0 m=(d,P.length+(Wr.str d).length,0):=by
 have hsl:(Wr.str d).length=(Vi.enc d.length).length+d.length:=by unfold Wr.str;simp
 have hlen:(P++Wr.str d++R).length=P.length+(Wr.str d).length+R.length:=by simp;omega
 have hget:Vi.get (P++Wr.str d++R) (P.length:Int)=(d.length,((P.length+(Vi.enc d.length).length:Nat):Int),0):=by
  have h:=Vi.xN P d.length (d++R) hd;have e:P++Wr.str d++R=P++Vi.enc d.length++(d++R):=by unfold Wr.str;simp
  rw[e];exact h
 have hs1:Wr.aA (P++Wr.str d++R) (Vi.get (P++Wr.str d++R) (P.length:Int)) m=(d,((P.length+(Wr.str d).length:Nat):Int),0):=by
  rw[hget];unfold Wr.aA;rw[Ng sm,Ng (by simp;omega),Ng (by simp only;rw[hlen];omega)];simp only[lS];have e4:((P++Wr.str d++R).drop (P.length+(Vi.enc d.length).length)).take d.length=d:=by
   have e:P++Wr.str d++R=(P++Vi.enc d.length)++(d++R):=by unfold Wr.str;simp
   have e5:P.length+(Vi.enc d.length).length=(P++Vi.enc d.length).length:=sm;rw[e,e5,CW,Dv]
  rw[e4];simp only[ay,true_and,Bi];omega
 unfold Wr.string;rw[Ng sm,hs1];simp only[ne_eq,Bw,Dx,lS]
end
end
section
section
open Go.RowKit Go.Shelf
theorem zY {w w'} {p B} (h:w.grownBy w' (some p)) (hp:B≤p) (hB:B≤w.heap.size):Below B w w':=(Ae _ w).grown h hB (fun g e=>by cases e;exact hp)
theorem sD (A1 A2) (n1 n2 c1 c2) (l1 l2) (b) (w) (B1 B2) (h1:aN w B1 A1 n1 c1 l1) (h2:aN w B2 A2 n2 c2 l2) (hb:(l1==l2)=b):
  Calls prog 18 #[.slice A1 n1 c1,.slice A2 n2 c2] w fun e w'=>e= .returned (.bool b)∧w=w':=by
 have h:=LZ A1 A2 n1 n2 c1 c2 l1 l2 w B1 B2 h1 h2;rw[hb]at h;exact h
end
end
end Go.Proofs.YtjcpmfphnodaaaaGreatDoor
