/- Part 3. -/
import Derived.Test.YtjcpmfphnodaaaaGreatDoorZTAB
import Derived.BigQuiet
import Derived.Deep.RegionWith
import Derived.Deep.DeepCutAuto
namespace Go.Proofs.YtjcpmfphnodaaaaGreatDoor
set_option maxRecDepth 100000
set_option maxHeartbeats 0
open _root_.Go.Proofs.Tryz
section
namespace aL
def st (s:Nat):Nat:=(s/2)^^^ (s%2*3988292384)
def it:Nat→Nat→Nat
 |0,s=>s
 |n+1,s=>it n (st s)
def upd (s:Nat) (l:List UInt8):Nat:=l.foldl (fun s c=>it 8 (s^^^c.toNat)) s
theorem N9 (a b):(a^^^b)/2=(a/2)^^^ (b/2):=by
 have:=Nat.shiftRight_xor_distrib (a:=a) (b:=b) (i:=1);simpa[BJ]using this
theorem Ob (a b):(a^^^b)%2=(a%2)^^^ (b%2):=by
 have:=Nat.xor_mod_two_pow (a:=a) (b:=b) (n:=1);simpa using this
theorem Xw (a b):st (a^^^b)=st a^^^st b:=by
 unfold st;rw[N9,Ob];rcases Cv a with ha|ha<;>rcases Cv b with hb|hb<;>rw[ha,hb]<;>simp
 ·ac_rfl
 ·ac_rfl
 ·have:a/2^^^3988292384^^^ (b/2^^^3988292384)=a/2^^^b/2^^^ (3988292384^^^3988292384):=by ac_rfl
  rw[this];simp
theorem V6 {s} (h:s<4294967296):st s<4294967296:=by
 unfold st;have h1:s/2<2^32:=om;have h2:s%2*3988292384<2^32:=om;exact Bp h1 h2
theorem Tk {s} (h:s<4294967296) (h0:st s=0):s=0:=by
 unfold st at h0;have h1:s/2=s%2*3988292384:=by
  have:=congrArg (fun x=>x^^^ (s%2*3988292384)) h0;simpa[Cf]using this
 omega
theorem oO (n a b):it n (a^^^b)=it n a^^^it n b:=by
 induction n generalizing a b with
 |zero=>rfl
 |succ n ih=>simp only[it,Xw,ih]
theorem aao (n) {s} (h:s<4294967296):it n s<4294967296:=by
 induction n generalizing s with
 |zero=>exact h
 |succ n ih=>exact ih (V6 h)
theorem JP (n) {s} (h:s<4294967296) (h0:it n s=0):s=0:=by
 induction n generalizing s with
 |zero=>exact h0
 |succ n ih=>exact Tk h (ih (V6 h) h0)
theorem JQ (n):it n 0=0:=by
 induction n with
 |zero=>rfl
 |succ n ih=>exact ih
theorem xP (m n s):it (m+n) s=it n (it m s):=by
 induction m generalizing s with
 |zero=>simp[it]
 |succ m ih=>rw[Nat.succ_add];simp only[it];exact ih _
theorem Xx (n) {a b} (ha:a<4294967296) (hb:b<4294967296) (h:it n a=it n b):a=b:=by
 have h0:it n (a^^^b)=0:=by rw[oO,h,DL]
 have:=JP n (Bp (n:=32) ha hb) h0;have h2:=congrArg (fun x=>x^^^b) this;simpa[Cf]using h2
theorem ry (k):st (2*k)=k:=by simp[st]
def tab:List Nat:=[0x00000000,0x1db71064,0x3b6e20c8,0x26d930ac,0x76dc4190,0x6b6b51f4,0x4db26158,0x5005713c,0xedb88320,0xf00f9344,0xd6d6a3e8,0xcb61b38c,0x9b64c2b0,0x86d3d2d4,0xa00ae278,0xbdbdf21c]
theorem it4 (s):tab.getD (s%16) 0^^^ (s/16)=it 4 s:=by
 have e:s=(s%16)^^^ (2*(2*(2*(2*(s/16))))):=by
  apply Nat.eq_of_testBit_eq;intro i;rw[Nat.testBit_xor];have e16:(2*(2*(2*(2*(s/16)))))=2^4*(s/2^4):=om;rw[e16,show s%16=s%2^4 from rfl,Nat.testBit_mod_two_pow,Nat.testBit_two_pow_mul,Nat.testBit_div_two_pow];by_cases h:i<4
  ·have:¬i≥4:=by omega
   simp[h,this]
  ·have h4:i≥4:=by omega
   simp[h,h4]
 have h:s%16<16:=Nat.mod_lt _ Ah;have hl:∀n,n<16→tab.getD n 0=it 4 n:=by decide+kernel
 conv=>rhs;rw[e,oO]
 rw[hl _ h]
 congr 1
 simp only[it,ry]
theorem Oc (i):tab.getD i 0<4294967296:=by
 by_cases h:i<16
 ·have:∀n,n<16→tab.getD n 0<4294967296:=by decide
  exact this i h
 ·have:tab.length≤i:=by simp[tab];omega
  simp[List.getD,BC this]
theorem nD (s) (c) (l):upd s (c::l)=upd (it 8 (s^^^c.toNat)) l:=rfl
theorem mi (s) (a b):upd s (a++b)=upd (upd s a) b:=by simp[upd,List.foldl_append]
theorem aap (c:UInt8):c.toNat<4294967296:=by have:=c.toNat_lt;omega
theorem rX {s} (l) (h:s<4294967296):upd s l<4294967296:=by
 induction l generalizing s with
 |nil=>exact h
 |cons c l ih=>exact ih (aao _ (Bp (n:=32) h (aap c)))
theorem Tn (s t) (l):upd (s^^^t) l=upd s l^^^it (8*l.length) t:=by
 induction l generalizing s t with
 |nil=>rfl
 |cons c l ih=>
  rw[nD,nD,show s^^^t^^^c.toNat=(s^^^c.toNat)^^^t by ac_rfl,oO,ih,←xP]
  congr 2
  simp;omega
theorem Od (a b k) (h:a<2^k):a^^^ (2^k*b)=2^k*b+a:=by
 apply Nat.eq_of_testBit_eq;intro i;rw[Nat.testBit_xor,Nat.testBit_two_pow_mul,Nat.testBit_two_pow_mul_add _ h];by_cases hi:i<k
 ·have h2:¬k≤i:=by omega
  simp[hi,h2]
 ·have:a.testBit i=false:=Nat.testBit_lt_two_pow (jB h (j5 Ah om));simp[hi,this];omega
def sum (l:List UInt8):Nat:=4294967295^^^upd 4294967295 l
theorem sum_lt (l):sum l<4294967296:=Bp (n:=32) Ah (rX l Ah)
theorem vz (s) (l:List UInt8) (k) (h:k<l.length):upd s (l.take (k+1))=it 8 (upd s (l.take k)^^^l[k].toNat):=by
 rw[Ts h,mi];rfl
theorem sub_eq_xor (u) (h:u<4294967296):4294967295^^^u=4294967295-u:=by
 apply Nat.eq_of_testBit_eq;intro i;rw[Nat.testBit_xor,show(4294967295:Nat)-u=2^32-(u+1)from om,Nat.testBit_two_pow_sub_succ h,show(4294967295:Nat)=2^32-1 from rfl,Nat.testBit_two_pow_sub_one];by_cases hi:i<32
 ·simp[hi]
 ·have:u.testBit i=false:=Nat.testBit_lt_two_pow (jB h (j5 (n:=2) Ah (show 32≤i from om)));simp[hi,this]
theorem Tq (l):sum l=4294967295-upd 4294967295 l:=sub_eq_xor _ (rX l Ah)
def four (s:Nat):List UInt8:=[UInt8.ofNat s,UInt8.ofNat (s/256),UInt8.ofNat (s/65536),UInt8.ofNat (s/16777216)]
theorem oP (s k) (h:k≤4):((four s).take k).length=k:=by simp[four];omega
theorem LV (l) (s k) (h:k<4):l++(four s).take (k+1)=l++(four s).take k++[UInt8.ofNat (s/2^ (8*k))]:=by
 rcases k with _|_|_|_|k<;>simp[four]
 omega
def app (l:List UInt8):List UInt8:=l++four (sum l)
def bN (l:List UInt8):Bool:=decide (4≤l.length)&& (l==app (l.take (l.length-4)))
theorem LW (l) (h:l.length<4):bN l=false:=by simp[bN];omega
theorem Oe (l) (h:4≤l.length):bN l=(l.drop (l.length-4)==four (sum (l.take (l.length-4)))):=by
 unfold bN app;rw[Bc h,Bool.true_and,Bool.eq_iff_iff,beq_iff_eq,beq_iff_eq];constructor
 ·intro e;have:=congrArg (fun x=>x.drop (l.length-4)) e;rw[List.drop_append]at this;simpa[lQ,show min (l.length-4) l.length=l.length-4 from om]using this
 ·intro e;rw[←e,jC]
theorem Og (s):(four s).length=4:=rfl
theorem Oh (s k:Nat) (h:k<4):(four s)[k]? =some (UInt8.ofNat (s/2^ (8*k))):=by
 rcases k with _|_|_|_|k<;>simp[four]
 omega
theorem LX (l:List UInt8) (s m k) (h:k<4) (hl:m+k<l.length) (x) (hx:x=UInt8.ofNat (s/2^ (8*k))) (he:(l.drop m).take k=(four s).take k):
  (l[m+k]=x→(l.drop m).take (k+1)=(four s).take (k+1))∧(¬l[m+k]=x→(l.drop m==four s)=false):=by
 have hg:(four s)[k]? =some x:=by rw[Oh s k h,hx]
 have hd:(l.drop m)[k]? =some l[m+k]:=by rw[List.getElem?_drop,l8 hl]
 constructor
 ·intro e;rw[List.take_add_one,List.take_add_one,he,hg,hd,e]
 ·intro e;rw[beq_eq_false_iff_ne];intro h2;rw[h2,hg]at hd
  injection hd with h3
  exact e h3.symm
theorem Gz (i):st (2^ (i+1))=2^i:=by rw[BQ,Dm];exact ry _
theorem GH (m i) (h:i≤m):it m (2^i)=it (m-i) 1:=by
 induction i generalizing m with
 |zero=>rfl
 |succ i ih=>
  obtain⟨m,rfl⟩:∃k,m=k+1:=⟨m-1,om⟩
  rw[it,Gz,ih m om,Nat.add_sub_add_right]
theorem Tt (x):it 8 (256*x)=x:=by
 rw[show 256*x=2*(2*(2*(2*(2*(2*(2*(2*x)))))))from om];simp only[it,ry]
theorem adL (s a b c d):
  it 8 (it 8 (it 8 (it 8 (s^^^a)^^^b)^^^c)^^^d)=it 32 (s^^^a^^^ (256*b)^^^ (256*(256*c))^^^ (256*(256*(256*d)))):=by
 simp only[show(32:Nat)=8+(8+(8+8))from rfl,xP,oO,Tt]
theorem rz (a b k) (h:a<2^k):a^^^ (2^k*b)=2^k*b+a:=Od a b k h
def num (a b c d:UInt8):Nat:=a.toNat+256*b.toNat+65536*c.toNat+16777216*d.toNat
theorem Xy (a b c d):num a b c d<4294967296:=by
 have:=a.toNat_lt;have:=b.toNat_lt;have:=c.toNat_lt;have:=d.toNat_lt;unfold num;omega
theorem Tu (a b c d):a.toNat^^^ (256*b.toNat)^^^ (256*(256*c.toNat))^^^ (256*(256*(256*d.toNat)))=num a b c d:=by
 have ha:=a.toNat_lt;have hb:=b.toNat_lt;have hc:=c.toNat_lt;have hd:=d.toNat_lt;have e1:=rz a.toNat b.toNat 8 om;have e2:=rz (2^8*b.toNat+a.toNat) c.toNat 16 om;have e3:=rz (2^16*c.toNat+(2^8*b.toNat+a.toNat)) d.toNat 24 om;rw[show 256*(256*c.toNat)=2^16*c.toNat from om,show 256*(256*(256*d.toNat))=2^24*d.toNat from om,show 256*b.toNat=2^8*b.toNat from om,e1,e2,e3];unfold num;omega
theorem zR (s) (a b c d):upd s [a,b,c,d]=it 32 (s^^^num a b c d):=by
 rw[←Tu,←Cf,←Cf,←Cf,←adL];rfl
theorem zS (s:Nat) (h:s<4294967296):num (UInt8.ofNat s) (UInt8.ofNat (s/256)) (UInt8.ofNat (s/65536)) (UInt8.ofNat (s/16777216))=s:=by
 unfold num;simp only[Cr];omega
theorem Oi (a b c d):four (num a b c d)=[a,b,c,d]:=by
 have ha:=a.toNat_lt;have hb:=b.toNat_lt;have hc:=c.toNat_lt;have hd:=d.toNat_lt;unfold four num;have h (x:UInt8) (n:Nat) (e:n%256=x.toNat):UInt8.ofNat n=x:=by apply UInt8.toNat_inj.1;rw[Cr];exact e
 rw[h a _ om,h b _ om,h c _ om,h d _ om]
theorem xQ (l):bN l=true↔4≤l.length∧upd 4294967295 l=it 32 4294967295:=by
 unfold bN;by_cases h:4≤l.length
 ·simp only[h,decide_true,Bool.true_and,true_and,beq_iff_eq];have hl:(l.drop (l.length-4)).length=4:=by rw[jX];omega
  have hs:l=l.take (l.length-4)++l.drop (l.length-4):=(jC _ _).symm;generalize l.take (l.length-4)=p at*;generalize l.drop (l.length-4)=t at*
  match t,hl with
  |[a,b,c,d],_=>
  subst hs;have hp:=rX p (s:=4294967295) Ah;have hn:=Xy a b c d;unfold app;rw[List.append_cancel_left_eq,mi,zR];constructor
  ·intro e;have:num a b c d=sum p:=by
    have e2:=zS (sum p) (sum_lt p);unfold four at e
    injection e with e0 e;injection e with e1 e;injection e with e3 e;injection e with e4 e
    rw[e0,e1,e3,e4];exact e2
   rw[this];unfold sum
   congr 1
   rw[Nat.xor_comm,Cf,DL,Nat.xor_zero]
  ·intro e;have e1:=Xx 32 (Bp (n:=32) hp hn) Ah e;have e2:sum p=num a b c d:=by
    unfold sum;generalize upd 4294967295 p=u at*;rw[←e1,Nat.xor_comm u,Cf,DL,Nat.xor_zero]
   rw[e2,Oi]
 ·simp[h]
theorem rA (l):bN (app l)=true:=by
 rw[xQ];refine⟨by simp[app,four],?_⟩;unfold app four;rw[mi,zR,zS _ (sum_lt _)];unfold sum
 congr 1
 rw[Nat.xor_comm,Cf,DL,Nat.xor_zero]
theorem Tv (s) (l) (q) (x) (h:q<l.length):
  upd s (l.set q (l[q]^^^x))=upd s l^^^it (8*(l.length-q)) x.toNat:=by
 induction l generalizing s q with
 |nil=>simp at h
 |cons c l ih=>
  cases q with
  |zero=>
   simp only[Ap,Cx,nD,UInt8.toNat_xor];rw[←Cf,oO,Tn,←xP];rw[Lc,show 8+8*l.length=8*(l.length+1-0)from om]
  |succ q=>
   simp only[Ao,Bz,nD];rw[ih];simp
def aX (l:List UInt8) (k:Nat):Nat→Nat→List UInt8
 |0,_=>l
 |n+1,p=>aX (if k<8*l.length∧p%2=1 then l.set (k/8) (l.getD (k/8) 0^^^UInt8.ofNat (2^ (k%8)))else l) (k+1) n (p/2)
theorem oQ (l) (k n p) (h1:k<8*l.length) (h2:p%2=1):aX l k (n+1) p=aX (l.set (k/8) (l.getD (k/8) 0^^^UInt8.ofNat (2^ (k%8)))) (k+1) n (p/2):=by rw[aX,Ps0 ⟨h1,h2⟩]
theorem kG (l) (k n p) (h:¬(k<8*l.length∧p%2=1)):aX l k (n+1) p=aX l (k+1) n (p/2):=by rw[aX,Ng h]
theorem jD (l) (k n p):(aX l k n p).length=l.length:=by
 induction n generalizing l k p with
 |zero=>rfl
 |succ n ih=>rw[aX,ih];split<;>simp
def pat (m:Nat):Nat→Nat→Nat
 |0,_=>0
 |n+1,p=>if m=0 then 0 else(p%2)+2*pat (m-1) n (p/2)
theorem Xz (m n p):pat m n p<2^n:=by
 induction n generalizing m p with
 |zero=>simp[pat]
 |succ n ih=>
  rw[pat];split
  ·exact Nat.two_pow_pos _
  ·have:=ih (m-1) (p/2);rw[BQ];omega
theorem Ol (k:Nat):(UInt8.ofNat (2^ (k%8))).toNat=2^ (k%8):=by
 rw[Cr];exact jA (Nat.pow_lt_pow_right Ah (Nat.mod_lt _ Ah))
theorem Om (a b) (h:a<2):a^^^ (2*b)=a+2*b:=by
 have:=rz a b 1 h;simpa[Nat.add_comm]using this
theorem Oo (s) (l) (k n p):upd s (aX l k n p)=upd s l^^^it (8*l.length-k) (pat (8*l.length-k) n p):=by
 induction n generalizing l k p with
 |zero=>simp[aX,pat,JQ]
 |succ n ih=>
  rw[aX,ih];by_cases hk:k<8*l.length
  ·have hm:¬(8*l.length-k=0):=by omega
   have e:pat (8*l.length-k) (n+1) p=(p%2)^^^ (2*pat (8*l.length-(k+1)) n (p/2)):=by
    rw[pat,Ng hm,Om _ _ (Nat.mod_lt _ Ah),show 8*l.length-k-1=8*l.length-(k+1)from om]
   have e2:it (8*l.length-k) (2*pat (8*l.length-(k+1)) n (p/2))=it (8*l.length-(k+1)) (pat (8*l.length-(k+1)) n (p/2)):=by
    rw[show 8*l.length-k=(8*l.length-(k+1))+1 from om,it,ry]
   rw[e,oO,e2];by_cases hp:p%2=1
   ·rw[Ps0 ⟨hk,hp⟩,hp];have hq:k/8<l.length:=om;rw[List.length_set,show l.getD (k/8) 0=l[k/8]by simp[List.getD,hq],Tv _ _ _ _ hq,Ol,GH _ _ om,show 8*(l.length-k/8)-k%8=8*l.length-k from om,Cf]
   ·have hp0:p%2=0:=by omega
    rw[Ng (by simp[hp]),hp0,JQ,Nat.zero_xor]
  ·rw[Ng (by simp[hk]),show 8*l.length-(k+1)=0 from om,show 8*l.length-k=0 from om];cases n<;>simp[pat]
theorem LY (l) (k n p) (h:pat (8*l.length-k) n p=0):aX l k n p=l:=by
 induction n generalizing l k p with
 |zero=>rfl
 |succ n ih=>
  rw[aX];by_cases hk:k<8*l.length
  ·rw[pat,Ng om]at h;rw[Ng om];exact ih _ _ _ (by rw[show 8*l.length-(k+1)=8*l.length-k-1 from om];omega)
  ·rw[Ng om];refine ih _ _ _ ?_;rw[show 8*l.length-(k+1)=0 from om];cases n<;>simp[pat]
theorem zT (s) (l) (k p):upd s (aX l k 32 p)=upd s l↔aX l k 32 p=l:=by
 constructor
 ·intro h;rw[Oo]at h;apply LY;have h2:it (8*l.length-k) (pat (8*l.length-k) 32 p)=0:=by
   have:=congrArg (fun y=>upd s l^^^y) h;simpa[←Cf]using this
  exact JP _ (Xz _ 32 p) h2
 ·intro h;rw[h]
theorem Oq (l) (k p) (hc:bN l=true):bN (aX l k 32 p)=true↔l=aX l k 32 p:=by
 have h1:=(xQ l).1 hc;rw[xQ,jD,←h1.2,zT];simp only[h1.1,true_and];exact eq_comm
end aL
end
section
section
open Go.RowKit
def eD (w:World):Prop:=∀i,i<16→w.cell? ⟨1,i,none⟩=some (.int .u32 ((aL.tab.getD i 0:Nat):Int))
theorem eD.lt {w} (h:eD w):1<w.heap.size:=AR w _ (h 0 Ah)
theorem eD.below {w w'} (h:eD w) (hb:Below w.heap.size w w'):eD w':=fun i hi=>(hb.cell (p:=⟨_,i,none⟩) h.lt).trans (h i hi)
theorem eD.alloc {w} (h:eD w) (o):eD (w.alloc o):=h.below ((Ae _ w).alloc Ai o)
theorem Tw (s:Nat) (A) (n c) (l) (w) (B) (hs:s<4294967296) (hv:aN w B A n c l) (ht:eD w):
  Calls prog 201 #[.int .u32 (s:Int),.slice A n c] w fun e w'=>e= .returned (.int .u32 ((aL.upd s l:Nat):Int))∧w=w':=by
 obtain rfl:=hv.len;have hlc:=hv.1;have hcm:=hv.2.1;unfold maxLen at hcm;go_enter func201,ntmps201;go_wp2;go_loop [0,9] (fun t i=>∃k:Nat,k≤l.length∧i= .int .i64 k∧t= .int .u32 ((aL.upd s (l.take k):Nat):Int)) (fun _ i=>l.length-(intOf i).toNat)
 case atStart=>exact⟨0,bE _,rfl,rfl⟩
 case round=>
  obtain⟨k,hk,rfl,rfl⟩:=hrel;by_cases hlt:k<l.length
  ·obtain⟨b,off,rfl,hb,hck⟩:=hv.at_ hlt;have hU:=aL.rX (l.take k) hs;have hC:l[k].toNat<256:=l[k].toNat_lt;have hst:=aL.vz s l k hlt;generalize aL.upd s (l.take k)=u at*;generalize l[k]=x at*;clear hv;obtain⟨a,ha⟩:∃a,a=u^^^x.toNat:=⟨_,rfl⟩
   have haU:a<4294967296:=by rw[ha];exact Bp (n:=32) hU om
   have e1:bits .xor .u32 (u:Int) (x.toNat:Int)=(a:Int):=by rw[ha];exact u32_xor_nat _ _ hU om
   have e2:bits .and .u32 (a:Int) 15=((a%16:Nat):Int):=by rw[←nat_mask4];exact u32_and_nat _ 15 haU om
   have t1:=ht (a%16) om;have h4:=aL.it4 a;have hT1:=aL.Oc (a%16);generalize aL.tab.getD (a%16) 0=y1 at*;obtain⟨b1,hb1⟩:∃b,b=y1^^^a/16:=⟨_,rfl⟩
   have hbU:b1<4294967296:=by rw[hb1];exact Bp (n:=32) hT1 om
   have e3:bits .xor .u32 (y1:Int) ((a:Int)/16)=(b1:Int):=by rw[hb1,←u32_xor_nat y1 (a/16) hT1 om];rfl
   have e4:bits .and .u32 (b1:Int) 15=((b1%16:Nat):Int):=by rw[←nat_mask4];exact u32_and_nat _ 15 hbU om
   have t2:=ht (b1%16) om;have h5:=aL.it4 b1;have wD:=aL.Oc (b1%16);generalize aL.tab.getD (b1%16) 0=y2 at*;obtain⟨b2,hb2⟩:∃b,b=y2^^^b1/16:=⟨_,rfl⟩
   have e5:bits .xor .u32 (y2:Int) ((b1:Int)/16)=(b2:Int):=by rw[hb2,←u32_xor_nat y2 (b1/16) wD om];rfl
   have fin:Hid (b2=aL.upd s (l.take (k+1))):=by
    show b2=_;rw[hst,←ha,show(8:Nat)=4+4 from rfl,aL.xP,←h4,←hb1,←h5,hb2]
   clear ha hb1 hb2 hst h4 h5 hT1 wD;go_wp2;go_round
   case rel=>exact⟨k+1,om,by go_num,by rw[fin.out]⟩
   case measure=>simp[intOf];omega
  ·obtain rfl:k=l.length:=by omega
   rw[List.take_length];go_wp2;go_ret;exact⟨rfl,rfl⟩
end
end
section
section
open Go.RowKit
theorem JR (A) (n c) (l) (w) (B) (hv:aN w B A n c l) (ht:eD w):
  Calls prog 148 #[.slice A n c] w fun e w'=>e= .returned (.int .u32 ((aL.sum l:Nat):Int))∧w=w':=by
 have hU:=aL.rX l (s:=4294967295) Ah;have hS:Hid (aL.sum l=4294967295-aL.upd 4294967295 l):=aL.Tq l;go_enter func148,ntmps148;go_wp2_with (go_at_call 201;refine(Tw 4294967295 _ _ _ l _ B Ah hv ht).mono ?_;rintro e w' ⟨rfl,rfl⟩);go_ret;refine⟨fP ?_,rfl⟩;rw[hS.out,←aL.sub_eq_xor _ hU];exact u32_xor_nat 4294967295 _ Ah hU
end
end
section
section
open Go.RowKit
theorem LZ (A1 A2) (n1 n2 c1 c2) (l1 l2) (w) (B1 B2) (h1:aN w B1 A1 n1 c1 l1) (h2:aN w B2 A2 n2 c2 l2):
  Calls prog 18 #[.slice A1 n1 c1,.slice A2 n2 c2] w fun e w'=>e= .returned (.bool (l1==l2))∧w=w':=by
 have k1:=bJ w B1 A1 n1 c1 l1 h1;have k2:=bJ w B2 A2 n2 c2 l2 h2;go_enter func18,ntmps18;go_wp2;go_ret;exact⟨rfl,rfl⟩
theorem rY (A) (n c) (l) (w) (B) (hv:aN w B A n c l) (ht:eD w) (hB:B≤w.heap.size) (hl:l.length≤140737488355232):
  Calls prog 91 #[.slice A n c] w fun e w'=>∃A2 n2 c2,e= .returned (.slice A2 n2 c2)∧ah w' w.heap.size A2 n2 c2 (aL.app l)∧Below w.heap.size w w':=by
 obtain rfl:=hv.len;have hlc:=hv.1;have hcm:=hv.2.1;have hsz:=ht.lt;unfold maxLen at hcm;go_enter func91,ntmps91;go_wp2_with (first
  |(at_builtin;refine bR rfl (.tmp 6) (.tmp 7) rfl w.heap.size _ _ _ [] rfl (ah.made w _ Ai) B _ _ _ l rfl (Rd.alloc hv hB _) om sm ?_;intro A2 c2 w1 hown1 hgrow1 Ot;have hb1:Below w.heap.size w w1:=((Ae _ w).alloc Ai _).grown hgrow1 sm (by simp[ab])))
 refine(JR _ _ _ l _ B (hv.below (hb1.mono hB)) (ht.below hb1)).mono ?_;rintro e w2 ⟨rfl,rfl⟩;go_wp2_with fail;have hS:=aL.sum_lt l;generalize hs:aL.sum l=s at*;have Hs:=hide hs;clear hs hgrow1 Ot;go_loopw [3,11] (fun v i wr=>∃k:Nat,k≤4∧i= .int .i64 k∧∃A3 n3 c3,v= .slice A3 n3 c3∧ah wr w.heap.size A3 n3 c3 (l++(aL.four s).take k)∧Below w.heap.size w wr) (fun _ i _=>4-(intOf i).toNat)
 case atStart=>exact⟨0,bE _,rfl,A2,_,c2,rfl,by simpa using hown1,hb1⟩
 case round=>
  obtain⟨k,hk,rfl,A3,n3,c3,rfl,ho,hb⟩:=hrel;by_cases hlt:k<4
  ·obtain⟨x,hx⟩:∃x:UInt8,x=UInt8.ofNat (s/2^ (8*k)):=⟨_,rfl⟩
   have e1:(s:Int)/2^ (8*k)%256=(x.toNat:Int):=by rw[hx,Cr];simp
   have Hx:Hid (l++(aL.four s).take (k+1)=l++(aL.four s).take k++[x]):=by rw[hx];exact aL.LV l s k hlt
   have Hn:=ho.len;have Hf:=aL.oP s k om;rw[La,Hf]at Hn;have mo:n3+1≤140737488355328:=om;have hz:=hb.size;clear hx Hn Hf;go_wp2_with (first
    |(at_builtin;refine bR rfl (.tmp 14) (.tmp 20) rfl w.heap.size A3 n3 c3 _ rfl (Oa ho _) (wr.heap.size+1) _ _ _ [x] rfl (aN.one wr x) mo (by simp;omega) ?_;intro A4 c4 w4 ax aj di))
   go_roundw
   case rel=>
    refine⟨k+1,om,by go_num,A4,_,c4,rfl,?_,?_⟩
    ·rw[Hx.out];exact ax
    ·exact(hb.alloc hz _).grown aj (by simp;omega) (fun g hg=>(ae ho g hg).1)
   case measure=>simp[intOf];omega
  ·obtain rfl:k=4:=by omega
   go_wp2;go_ret;refine⟨A3,n3,c3,rfl,?_,hb⟩;unfold aL.app;rw[Hs.out];exact ho
theorem wF (A) (n c) (l) (w) (B) (hv:aN w B A n c l) (ht:eD w):
  Calls prog 116 #[.slice A n c] w fun e w'=>e= .returned (.bool (aL.bN l))∧w=w':=by
 have hlc:=hv.1;have hcm:=hv.2.1;have hn:=hide hv.len;unfold maxLen at hcm;by_cases h4:4≤n
 ·obtain⟨b,off,rfl,hb,hcell⟩:=hv.2.2.2 om;have hdrop:=hide (aL.Oe l (by rw[←hn.out];exact h4));obtain⟨m,rfl⟩:∃m,n=m+4:=⟨n-4,om⟩
  rw[←hn.out,Bn]at hdrop;have htk:aN w B (some ⟨b,off,none⟩) m c (l.take m):=hv.take om;clear hv;go_enter func116,ntmps116;go_wp2_with fail;refine(JR _ _ _ (l.take m) _ B htk ht).mono ?_;rintro e w2 ⟨rfl,rfl⟩;go_wp2_with fail;have hS:=aL.sum_lt (l.take m);generalize aL.sum (l.take m)=s at*;go_loop [20] (fun i=>∃k:Nat,k≤4∧i= .int .i64 k∧Hid ((l.drop m).take k=(aL.four s).take k)) (fun i=>4-(intOf i).toNat)
  case atStart=>exact⟨0,bE _,rfl,rfl⟩
  case round=>
   obtain⟨k,hk,rfl,heq⟩:=hrel;by_cases hlt:k<4
   ·have hkl:m+k<l.length:=by have:=hn.out;omega
    have hck:=hcell (m+k) (bv l[m+k]) (by simp[iW,hkl]);rw[←gM]at hck;unfold bv at hck;obtain⟨x,hx⟩:∃x:UInt8,x=UInt8.ofNat (s/2^ (8*k)):=⟨_,rfl⟩
    have e1:(s:Int)/2^ (8*k)%256=(x.toNat:Int):=by rw[hx,Cr];simp
    have hstep:=hide (aL.LX l s m k hlt hkl x hx heq.out);clear hx;generalize l[m+k]=y at*;by_cases hxy:y=x
    ·have ht:((y.toNat:Int) !=(x.toNat:Int))=false:=by rw[hxy];simp
     go_wp2;go_round
     case rel=>exact⟨k+1,om,by go_num,hstep.out.1 hxy⟩
     case measure=>simp[intOf];omega
    ·have ht:((y.toNat:Int) !=(x.toNat:Int))=true:=by
      rw[bne_iff_ne];intro h;exact hxy (UInt8.toNat_inj.1 om)
     go_wp2;go_ret;refine⟨kF ?_,rfl⟩;rw[hdrop.out,hstep.out.2 hxy]
   ·obtain rfl:k=4:=by omega
    go_wp2;go_ret;refine⟨kF ?_,rfl⟩;rw[hdrop.out];have:=heq.out;have hl4:(l.drop m).length=4:=by rw[jX];have:=hn.out;omega
    rw[jY om,jY (by rw[aL.Og];omega)]at this;rw[this,beq_self_eq_true]
 ·have hs:=aL.LW l (by rw[←hn.out];omega);rw[hs];go_enter func116,ntmps116;go_wp2;go_ret;exact⟨rfl,rfl⟩
end
end
section
section
open Go.RowKit
theorem Ou (A) (n c) (l) (k p:Nat) (w) (B) (hv:aN w B A n c l) (hB:B≤w.heap.size) (hl:n≤140737488355232) (hk:k≤1125899906842624) (hp:p<4294967296):
  Calls prog 20 #[.slice A n c,.int .i64 (k:Int),.int .u32 (p:Int)] w fun e w'=>∃A2 n2 c2,e= .returned (.slice A2 n2 c2)∧ah w' w.heap.size A2 n2 c2 (aL.aX l k 32 p)∧Below w.heap.size w w':=by
 have hlc:=hv.1;have hn:=hide hv.len;go_enter func20,ntmps20;go_wp2_with (first
  |(at_builtin;refine bR rfl (.tmp 12) (.tmp 13) rfl w.heap.size _ _ _ [] rfl (ah.made w _ Ai) B _ _ _ l rfl (hv.alloc hB _) om sm ?_;intro A2 c2 w1 hown1 hgrow1 Ot;have hb1:Below w.heap.size w w1:=((Ae _ w).alloc Ai _).grown hgrow1 sm (by simp[ab]);rw[Ay,cB]at hown1;have hz1:=hb1.size))
 have Hv:=hide hv;clear hv hgrow1 Ot;go_loopw [2,8] (fun q i wr=>∃(j pj:Nat) (lj:List UInt8),j≤32∧i= .int .i64 j∧q= .int .u32 (pj:Int)∧pj<4294967296∧Hid (lj.length=n)∧Kept (aL.aX l k 32 p=aL.aX lj (k+j) (32-j) pj)∧ah wr w.heap.size A2 n c2 lj∧Below w.heap.size w wr) (fun _ i _=>32-(intOf i).toNat)
 case atStart=>exact⟨0,p,l,bE _,rfl,rfl,hp,hn.out.symm,⟨rfl⟩,hown1,hb1⟩
 case round=>
  obtain⟨j,pj,lj,hj,rfl,rfl,hpj,hlj,hfl,ho,hb⟩:=hrel;by_cases hlt:j<32
  ·obtain⟨K,hK⟩:∃K,K=k+j:=⟨_,rfl⟩
   rw[←hK]at hfl;have eK:(k:Int)+(j:Int)=(K:Int):=om;obtain⟨m,hm⟩:∃m,32-j=m+1:=⟨31-j,om⟩
   have Hm:Hid (32-(j+1)=m):=by show _=_;omega
   have HK:Hid (k+(j+1)=K+1):=by show _=_;omega
   have hKb:K≤1125899906842700:=om;rw[hm]at hfl;clear hm hK;by_cases hin:K<8*n
   ·have adM:decide ((K:Int)<8*(n:Int))=true:=by simp;omega
    by_cases hodd:pj%2=1
    ·have aaq:((pj:Int)%2==1)=true:=by simp;omega
     have hf2:=Aj (aL.oQ lj K m pj (by rw[hlj.out];exact hin) hodd);obtain⟨g,rfl,hg1,hg2⟩:=ho.pos om;have hkq:K/8<lj.length:=by rw[hlj.out];omega
     obtain⟨hc,hf⟩:=ho.at_ hkq;have hget:=hide (show lj.getD (K/8) 0=lj[K/8]by simp[List.getD,hkq]);generalize lj[K/8]=y at*;have hq1:K/8<n:=om;obtain⟨q,hq⟩:∃q,q=K/8:=⟨_,rfl⟩
     obtain⟨r,hr⟩:∃r,r=K%8:=⟨_,rfl⟩
     have eq1:(K:Int)/8=(q:Int):=om;have er1:(K:Int)%8=(r:Int):=om;rw[←hq]at hc hf hget hq1 hf2;rw[←hr]at hf2;have JS:r<8:=om;clear hq hr hkq hodd hin;have hy:=y.toNat_lt;go_wp2_with fail;go_loop [10,11] (fun wt i=>∃t v:Nat,t≤r∧v≤128∧Kept (v=2^t)∧i= .int .i64 t∧wt= .int .i64 (v:Int)) (fun _ i=>r-(intOf i).toNat)
     case atStart=>exact⟨0,1,om,om,⟨rfl⟩,rfl,rfl⟩
     case round=>
      obtain⟨t,v,ht,agq,hvt,rfl,rfl⟩:=hrel;by_cases htr:t<r
      ·have hv64:v≤64:=by
        have h6:t≤6:=om;have:=j5 (n:=2) Ah h6;rw[hvt.out];exact this
       have hvn:Kept (v*2=2^ (t+1)):=⟨by rw[BQ,←hvt.out]⟩
       clear hvt;go_wp2;go_round
       case rel=>exact⟨t+1,v*2,om,om,hvn,by go_num,by go_num⟩
       case measure=>simp[intOf];omega
      ·obtain rfl:t=r:=by omega
       obtain⟨x,hx⟩:∃x:UInt8,x=y^^^UInt8.ofNat (2^t):=⟨_,rfl⟩
       have hxv:bits .xor .u8 (y.toNat:Int) (v:Int)=(x.toNat:Int):=by
        rw[hx,UInt8.toNat_xor,Cr,←hvt.out,jA (show v<2^8 from om)];exact u8_xor_nat _ _ hy om
       have Ov:Kept (aL.aX l k 32 p=aL.aX (lj.set q x) (K+1) m (pj/2)):=⟨by rw[hfl.out,hf2.out,hget.out,hx]⟩
       have adN:Hid ((lj.set q x).length=n):=by show _=_;rw[List.length_set];exact hlj.out
       have hset:=ho.set q x;have hb2:=hb.setCell (p:=⟨g,q,none⟩) hg1 (.int .u8 (x.toNat:Int));clear hx hvt hfl hf2 hget;go_wp2;go_roundw
       case rel=>exact⟨j+1,pj/2,lj.set q x,om,by go_num,by go_num,om,adN,⟨by rw[Ov.out,HK.out,Hm.out]⟩,hset,hb2⟩
       case measure=>simp[intOf];omega
    ·have aaq:((pj:Int)%2==1)=false:=by simp;omega
     have Ov:=Aj (hfl.out.trans (aL.kG lj K m pj om));clear hodd;go_wp2;go_roundw
     case rel=>exact⟨j+1,pj/2,lj,om,by go_num,by go_num,om,hlj,⟨by rw[Ov.out,HK.out,Hm.out]⟩,ho,hb⟩
     case measure=>simp[intOf];omega
   ·have adM:decide ((K:Int)<8*(n:Int))=false:=by simp;omega
    have Ov:=Aj (hfl.out.trans (aL.kG lj K m pj (by rw[hlj.out];omega)));clear hin;go_wp2;go_roundw
    case rel=>exact⟨j+1,pj/2,lj,om,by go_num,by go_num,om,hlj,⟨by rw[Ov.out,HK.out,Hm.out]⟩,ho,hb⟩
    case measure=>simp[intOf];omega
  ·obtain rfl:j=32:=by omega
   have hfin:=Aj (hfl.out.trans (show aL.aX lj (k+32) (32-32) pj=lj from rfl));clear hfl;go_wp2;go_ret;refine⟨A2,n,c2,rfl,?_,hb⟩;rw[hfin.out];exact ho
end
end
section
section
open Go.RowKit Go.Shelf
theorem ah.nil (w) (base):ah w base none 0 0 []:=AY _ _ _ _
theorem ah.base {w} {base base' n c} {A} {l} (h:ah w base A n c l) (hb:base'≤base):ah w base' A n c l:=by
 refine⟨h.1,?_⟩;rcases h.2 with hn|⟨g,cap,cur,hv,h1,rest⟩
 ·exact .inl hn
 ·exact .inr ⟨g,cap,cur,hv,om,rest⟩
theorem ah.keep {w w'} {base n c} {A} {l} (h:ah w base A n c l) (hb:Below w.heap.size w w'):ah w' base A n c l:=own_below h hb (fun g hg=>(ae h g hg).2)
theorem eD.base {w w'} {base} (h:eD w) (hg:1<base) (hb:Below base w w'):eD w':=fun i hi=>(hb.cell (p:=⟨_,i,none⟩) hg).trans (h i hi)
theorem xR {w W W'} (h:Below w.heap.size w W) (h2:Below W.heap.size W W'):Below w.heap.size w W':=h.trans (h2.mono h.size)
theorem aF {w w'} {base n c} {A} {l} (h:ah w base A n c l) (hb:base≤w.heap.size) (hg:w.grownBy w' (ab A)):Below base w w':=
 (Ae _ w).grown hg hb (fun g e=>(ae h g e).1)
theorem l9 {w} {ops} {rest} {o} {a} {Q} (hgd:o.guard=none) (s x)
  (ho:o.op= .call {callee:= .builtin .append,args:= #[s,x],argTypes:= #[22,9]})
  (base) (A) (n c) (l) (hs:a.eval s= .slice A n c) (hown:ah w base A n c l)
  (str) (hx:a.eval x= .string str) (hlen:n+str.size≤140737488355328) (hbase:base≤w.heap.size)
  (h:∀A2 c2 w',ah w' base A2 (n+str.size) c2 (l++str.data.toList)→w.grownBy w' (ab A)→wpList prog ops Q rest (a.put o.dst (.slice A2 (n+str.size) c2)) w'):wpList prog ops Q (o::rest) a w:=by
 obtain⟨i0,hi0,hz0,hz1,hz2⟩:=AX JN;refine Lib.wpList_append_own_string (P:=prog) w hgd s x _ _ ho base 5 i0 underlying22 underlying9 hi0 hz0 hz1 hz2 (.slice A n c) n (iW l) hs hown str hx (by unfold maxLen;omega) hlen hbase ?_;intro v' w' h2 h3 _;obtain⟨A2,c2,rfl,_⟩:=zO h2;rw[gP]at h3;refine h A2 c2 w' ?_ h3;have e:iW l++Lib.strCells str=iW (l++str.data.toList):=by rw[jy];rfl
 rw[e]at h2;exact h2
theorem fB (A) (n c B) (l) (w) (hv:aN w B A n c l) (hB:B≤w.heap.size) (hl:n≤140737488355232):
  Calls prog 164 #[.slice A n c] w fun e w'=>∃A3 c3,e= .returned (.slice A3 n c3)∧ah w' w.heap.size A3 n c3 l∧Below w.heap.size w w':=by
 have hlc:=hv.1;have hcm:=hv.2.1;unfold maxLen at hcm;have Hv:=Aj hv;have hn:=Aj hv.len;clear hv;have qT:∀(w:World) (a:Option Addr) (n c n' c':Nat),(binOp .eql 22 (.slice a n c) (.slice none n' c')).run prog w= .ok (.bool a.isNone) w:=fun w a n c n' c'=>Lib.run_eql_slice_nil w _ _ a n c n' c' underlying22
 cases A with
 |none=>
  have h0:n=0:=by
   rcases nz n with h|h
   ·exact h
   ·obtain⟨b,off,e,_⟩:=Hv.1.2.2.2 h;cases e
  subst h0;obtain rfl:l=[]:=vg hn.1.symm;go_enter func164,ntmps164;go_wp2;go_ret;exact⟨none,0,rfl,ah.nil _ _,Ae _ _⟩
 |some a=>
  go_enter func164,ntmps164;go_wp2_with (at_builtin;refine bR rfl (.tmp 5) (.tmp 6) rfl w.heap.size _ _ _ [] rfl (ah.made w _ Ai) B _ _ _ l rfl (Rd.alloc Hv.1 hB _) om sm ?_;intro A2 c2 w1 hown1 hgrow1 Ot;have hb1:Below w.heap.size w w1:=((Ae _ w).alloc Ai _).grown hgrow1 sm (by simp[ab]));rw[Ay,cB]at hown1;go_ret;exact⟨A2,c2,rfl,hown1,hb1⟩
def Wr.str (d:List UInt8):List UInt8:=Vi.enc d.length++d
def Wr.frame (id:UInt8) (d:List UInt8):List UInt8:=aL.app (id::Wr.str d)
theorem Wr.rC (d) (h:d.length≤140737488355328):(Wr.str d).length≤d.length+10:=by
 have:=Vi.bC d.length om;unfold Wr.str;rw[La];omega
theorem jZ (A) (n c base) (l) (s) (w) (ho:ah w base A n c l) (hB:base≤w.heap.size) (hn:n+s.size≤140737488354000):
  Calls prog 146 #[.slice A n c,.string s] w fun e w'=>∃A3 n3 c3,e= .returned (.slice A3 n3 c3)∧ah w' base A3 n3 c3 (l++Wr.str s.data.toList)∧Below base w w':=by
 have Ho:=Aj ho;have hlen:=Aj ho.len;have hs:s.size≤140737488354000:=om;have hel:=Aj (Vi.bC s.size om);have hst:Kept (Wr.str s.data.toList=Vi.enc s.size++s.data.toList):=⟨by unfold Wr.str;simp⟩
 clear ho;go_enter func146,ntmps146;go_wp2_with (first
  |(go_at_call 145;refine(dh _ _ _ base s.size l _ Ho.1 hB om om).mono ?_;rintro e w1 ⟨A1,n1,c1,rfl,ho1,hg1,-⟩;have hn1:n1≤n+10:=(by have h1:=ho1.len;have h2:=hel.1;have h3:=hlen.1;simp at h1;omega);have O1:=Aj ho1;have b1:=aF Ho.1 hB hg1;have z1:=b1.size;clear ho1 hg1)
  |(at_builtin;refine l9 rfl (.tmp 9) (.tmp 10) rfl base _ _ _ _ rfl O1.1 s rfl om om ?_;intro A4 c4 w4 ax aj))
 go_ret;refine⟨A4,_,c4,rfl,?_,b1.trans (aF O1.1 om aj)⟩;rw[hst.1,←Af];exact ax
end
end
section
section
open Go.RowKit Go.Shelf
theorem aL.iY (l):(aL.app l).length=l.length+4:=by simp[aL.app,aL.four]
theorem Wr.lq (id) (d) (h:d.length≤140737488355328):(Wr.frame id d).length≤d.length+15:=by
 have:=Wr.rC d h;unfold Wr.frame;rw[aL.iY,Lc];omega
end
end
section
section
open Go.RowKit Go.Shelf
theorem ag (w:World) (a) (v):w.grownBy (w.setCell a v) (some a.block):=
 ⟨rfl,rfl,rfl,sm,fun k _ hne=>AF w a v k (fun e=>hne (by rw[e]))⟩
def aK (w:World) (p:Nat) (l:List UInt8) (at_:Nat) (e:Int):Prop:=
 ∃A n c,w.heap[p]? =some (.cells #[.slice A n c,.int .i64 (at_:Int),.int .i64 e] 270 (0,0))∧aN w p A n c l∧n≤140737488354000∧at_≤n
theorem aK.lt {w} {p at_} {l} {e} (h:aK w p l at_ e):p<w.heap.size:=by
 obtain⟨A,n,c,h,_⟩:=h;exact(Ge.1 h).1
theorem aK.len {w} {p at_} {l} {e} (h:aK w p l at_ e):l.length≤140737488354000∧at_≤l.length:=by
 obtain⟨A,n,c,_,h,h2,h3⟩:=h;have:=h.len;omega
theorem aK.below {w w'} {p at_} {l} {e} (h:aK w p l at_ e) {B} (hb:Below B w w') (hB:p<B):aK w' p l at_ e:=by
 obtain⟨A,n,c,h1,h2,h3,h4⟩:=h;exact⟨A,n,c,(hb.block p hB).trans h1,aN.below h2 (hb.mono om),h3,h4⟩
theorem aK.move {w} {p at_} {l} {e} (h:aK w p l at_ e) (a) (ha:a≤l.length):aK (w.setCell ⟨p,1,none⟩ (.int .i64 (a:Int))) p l a e:=by
 obtain⟨A,n,c,h1,h2,h3,h4⟩:=h;exact⟨A,n,c,by rw[Ag w p 1 _ _ _ h1];rfl,h2.setCell (p:=⟨p,1,none⟩) Ai _,h3,by have:=h2.len;omega⟩
theorem aK.fail {w} {p at_} {l} {e} (h:aK w p l at_ e) (f):aK (w.setCell ⟨p,2,none⟩ (.int .i64 f)) p l at_ f:=by
 obtain⟨A,n,c,h1,h2,h3,h4⟩:=h;exact⟨A,n,c,by rw[Ag w p 2 _ _ _ h1];rfl,h2.setCell (p:=⟨p,2,none⟩) Ai _,h3,h4⟩
theorem aK.cells {w} {p at_} {l} {e} (h:aK w p l at_ e):∃A n c,w.cell? ⟨p,0,none⟩=some (.slice A n c)∧w.cell? ⟨p,1,none⟩=some (.int .i64 (at_:Int))∧w.cell? ⟨p,2,none⟩=some (.int .i64 e)∧
  w.frozen? ⟨p,1,none⟩=false∧w.frozen? ⟨p,2,none⟩=false∧aN w p A n c l∧n≤140737488354000∧at_≤n∧n≤c∧c≤9223372036854775807:=by
 obtain⟨A,n,c,h1,h2,h3,h4⟩:=h;have hc:=h2.2.1;unfold maxLen at hc;exact⟨A,n,c,Co _ _ _ _ _ _ h1,Co _ _ _ _ _ _ h1,Co _ _ _ _ _ _ h1,Fr _ _ _ _ _ h1,Fr _ _ _ _ _ h1,h2,h3,h4,h2.1,om⟩
theorem az (p at_) (l) (e) (w) (h:aK w p l at_ e):Calls prog 120 #[.pointer (some ⟨p,0,none⟩)] w fun r w'=>r= .returned (.int .i64 e)∧w=w':=by
 obtain⟨A,n,c,c0,c1,c2,f1,f2,hr,h3,h4,h5,h6⟩:=h.cells;clear h hr;go_enter func120,ntmps120;go_wp2;go_ret;exact⟨rfl,rfl⟩
theorem iN (p at_) (l) (e) (w) (h:aK w p l at_ e):Calls prog 112 #[.pointer (some ⟨p,0,none⟩)] w fun r w'=>r= .returned (.int .i64 (at_:Int))∧w=w':=by
 obtain⟨A,n,c,c0,c1,c2,f1,f2,hr,h3,h4,h5,h6⟩:=h.cells;clear h hr;go_enter func112,ntmps112;go_wp2;go_ret;exact⟨rfl,rfl⟩
theorem iZ (p at_) (l) (e) (a) (w) (h:aK w p l at_ e) (h0:0≤a) (h1:a≤9223372036854775807):Calls prog 167 #[.pointer (some ⟨p,0,none⟩),.int .i64 a] w fun r w'=>r= .returned (.int .i64 ((l.length:Int)-a))∧w=w':=by
 obtain⟨A,n,c,c0,c1,c2,f1,f2,hr,h3,h4,h5,h6⟩:=h.cells;have hl:=Aj hr.len;clear h hr;go_enter func167,ntmps167;go_wp2;go_ret;exact⟨by rw[←hl.1];rfl,rfl⟩
theorem bU (p at_) (l) (e f) (w) (h:aK w p l at_ e):Calls prog 114 #[.pointer (some ⟨p,0,none⟩),.int .i64 f] w fun r w'=>r= .returned (.tuple #[])∧aK w' p l at_ (if e=0 then f else e)∧w.grownBy w' (some p):=by
 obtain⟨A,n,c,c0,c1,c2,f1,f2,hr,h3,h4,h5,h6⟩:=h.cells;have H:=Aj h;clear h hr;by_cases he:e=0
 ·subst he;go_enter func114,ntmps114;go_wp2;go_end0;exact⟨rfl,H.1.fail f,ag w ⟨p,2,none⟩ _⟩
 ·have wG:(e==0)=false:=by simpa using he
  have hif:Kept ((if e=0 then f else e)=e):=⟨Ng he⟩
  rw[hif.1];clear he;go_enter func114,ntmps114;go_wp2;go_end0;exact⟨rfl,H.1,CQ _ _⟩
def Wr.fin (l:List UInt8) (at_:Nat) (e:Int):Int:=if e≠0 then e else if at_<l.length then 4 else 0
theorem fQ (p at_) (l) (e) (w) (h:aK w p l at_ e):Calls prog 117 #[.pointer (some ⟨p,0,none⟩)] w fun r w'=>r= .returned (.int .i64 (Wr.fin l at_ e))∧w=w':=by
 obtain⟨A,n,c,c0,c1,c2,f1,f2,hr,h3,h4,h5,h6⟩:=h.cells;have H:=Aj h;have hl:=Aj hr.len;clear h hr;by_cases he:e=0
 ·subst he;have hfin:Kept (Wr.fin l at_ 0=if at_<l.length then 4 else 0):=⟨by unfold Wr.fin;rw[Ng sm]⟩
  have h7:Kept (((l.length:Int)-(at_:Int))=(n:Int)-(at_:Int)):=⟨by rw[←hl.1]⟩
  by_cases hlt:at_<n
  ·have hlt':(at_:Int)< (n:Int):=by omega
   go_enter func117,ntmps117;go_wp2_with (first
    |(go_at_call 120;refine(az _ _ _ _ _ H.1).mono ?_;rintro r w1 ⟨rfl,rfl⟩)
    |(go_at_call 167;refine(iZ _ _ _ _ _ _ H.1 om om).mono ?_;rintro r w1 ⟨rfl,rfl⟩;rw[h7.1]))
   go_ret;exact⟨by rw[hfin.1,Ps0 (by rw[←hl.1];exact hlt)];rfl,rfl⟩
  ·obtain rfl:at_=n:=by omega
   go_enter func117,ntmps117;go_wp2_with (first
    |(go_at_call 120;refine(az _ _ _ _ _ H.1).mono ?_;rintro r w1 ⟨rfl,rfl⟩)
    |(go_at_call 167;refine(iZ _ _ _ _ _ _ H.1 om om).mono ?_;rintro r w1 ⟨rfl,rfl⟩;rw[h7.1]))
   go_ret;exact⟨by rw[hfin.1,Ng (by rw[←hl.1];omega)];rfl,rfl⟩
 ·have wG:(e==0)=false:=by simpa using he
  have hen:(e !=0)=true:=by simpa using he
  have hfin:Kept (Wr.fin l at_ e=e):=⟨by unfold Wr.fin;rw[Ps0 he]⟩
  clear he;go_enter func117,ntmps117;go_wp2_with (go_at_call 120;refine(az _ _ _ _ _ H.1).mono ?_;rintro r w1 ⟨rfl,rfl⟩);go_ret;exact⟨by rw[hfin.1];rfl,rfl⟩
end
end
section
section
open Go.RowKit Go.Shelf
theorem bW (A) (n c B) (l) (w) (hv:aN w B A n c l) (hB:B≤w.heap.size) (hn:n≤140737488354000):
  Calls prog 110 #[.slice A n c] w fun r w'=>∃p,r= .returned (.pointer (some ⟨p,0,none⟩))∧w.heap.size≤p∧p<w'.heap.size∧aK w' p l 0 0∧Below w.heap.size w w':=by
 have Hv:=Aj hv;have hlc:=hv.1;clear hv;go_enter func110,ntmps110;go_wp2_with (go_at_call 164;refine(fB _ _ _ B l _ Hv.1 hB om).mono ?_;rintro e w1 ⟨A1,c1,rfl,ho,hb⟩);go_ret;have hz:=hb.size;exact⟨w1.heap.size,rfl,hz,sm,⟨A1,n,c1,Av w1 _,ho.rd.alloc Ai _,hn,bE _⟩,hb.alloc hz _⟩
theorem xS (p at_) (l) (e) (F) (w) (h:aK w p l at_ e) (he:e≠0):
  Calls prog 227 #[.pointer (some ⟨p,0,none⟩),F] w fun r w'=>r= .returned (.int .u64 0)∧w=w':=by
 have H:=Aj h;have wG:(e==0)=false:=by simpa using he
 have hen:(e !=0)=true:=by simpa using he
 clear h he;go_enter func227,ntmps227;go_wp2_with (go_at_call 120;refine(az _ _ _ _ _ H.1).mono ?_;rintro r w1 ⟨rfl,rfl⟩);go_ret;exact⟨rfl,rfl⟩
theorem xU (p at_ bA:Nat) (l) (tt er) (c1 c2) (w) (R:World→Prop) (h:aK w p l at_ 0) (he:er≠0)
  (hent:∀args w,(callFunc bA args).run prog w= .ok (.enter bA args) w)
  (hf:Calls prog bA #[.int .i64 (at_:Int),c1,c2] w fun r w'=>(∃V,r= .returned (.tuple #[V,.int .i64 tt,.int .i64 er]))∧R w') (hR:∀w',R w'→aK w' p l at_ 0):
  Calls prog 227 #[.pointer (some ⟨p,0,none⟩),.func (.func bA) #[] #[c1,c2]] w fun r w'=>r= .returned (.int .u64 0)∧∃w1,R w1∧w'=w1.setCell ⟨p,2,none⟩ (.int .i64 er):=by
 obtain⟨A,n,c,k0,k1,k2,f1,f2,hr,h3,h4,h5,h6⟩:=h.cells;have H:=Aj h;have HF:=Aj hf;have HR:=Aj hR;have wG:(er==0)=false:=by simpa using he
 have hen:(er !=0)=true:=by simpa using he
 clear h he hr hf hR;go_enter func227,ntmps227;go_wp2_with (go_at_call 120;refine(az _ _ _ _ _ H.1).mono ?_;rintro r w1 ⟨rfl,rfl⟩);refine HF.1.mono ?_;rintro r w1 ⟨⟨V,rfl⟩,hw1⟩;obtain⟨A',n',c',j0,j1,j2,g1,g2,-⟩:=(HR.1 _ hw1).cells;have HW:=Aj hw1;clear k0 k1 k2 f1 f2 hw1;go_wp2;go_ret;exact⟨rfl,w1,HW.1,rfl⟩
theorem zU (p at_ bA:Nat) (l) (tt) (c1 c2) (w) (R:Value→World→Prop) (h:aK w p l at_ 0)
  (hent:∀args w,(callFunc bA args).run prog w= .ok (.enter bA args) w)
  (hf:Calls prog bA #[.int .i64 (at_:Int),c1,c2] w fun r w'=>∃V,r= .returned (.tuple #[V,.int .i64 tt,.int .i64 0])∧R V w') (hR:∀V w',R V w'→aK w' p l at_ 0):
  Calls prog 227 #[.pointer (some ⟨p,0,none⟩),.func (.func bA) #[] #[c1,c2]] w fun r w'=>∃V,r= .returned V∧∃w1,R V w1∧w'=w1.setCell ⟨p,1,none⟩ (.int .i64 tt):=by
 obtain⟨A,n,c,k0,k1,k2,f1,f2,hr,h3,h4,h5,h6⟩:=h.cells;have H:=Aj h;have HF:=Aj hf;have HR:=Aj hR;clear h hr hf hR;go_enter func227,ntmps227;go_wp2_with (go_at_call 120;refine(az _ _ _ _ _ H.1).mono ?_;rintro r w1 ⟨rfl,rfl⟩);refine HF.1.mono ?_;rintro r w1 ⟨V,rfl,hw1⟩;obtain⟨A',n',c',j0,j1,j2,g1,g2,-⟩:=(HR.1 _ _ hw1).cells;have HW:=Aj hw1;clear k0 k1 k2 f1 f2 hw1;go_wp2;go_ret;exact⟨V,rfl,w1,HW.1,rfl⟩
theorem nE (p at_) (l) (e) (F) (w) (h:aK w p l at_ e) (he:e≠0):
  Calls prog 165 #[.pointer (some ⟨p,0,none⟩),F] w fun r w'=>r= .returned (.slice none 0 0)∧w=w':=by
 have H:=Aj h;have wG:(e==0)=false:=by simpa using he
 have hen:(e !=0)=true:=by simpa using he
 clear h he;go_enter func165,ntmps165;go_wp2_with (go_at_call 120;refine(az _ _ _ _ _ H.1).mono ?_;rintro r w1 ⟨rfl,rfl⟩);go_ret;exact⟨rfl,rfl⟩
theorem nG (p at_ bA:Nat) (l) (tt er) (c1 c2) (w) (R:World→Prop) (h:aK w p l at_ 0) (he:er≠0)
  (hent:∀args w,(callFunc bA args).run prog w= .ok (.enter bA args) w)
  (hf:Calls prog bA #[.int .i64 (at_:Int),c1,c2] w fun r w'=>(∃V,r= .returned (.tuple #[V,.int .i64 tt,.int .i64 er]))∧R w') (hR:∀w',R w'→aK w' p l at_ 0):
  Calls prog 165 #[.pointer (some ⟨p,0,none⟩),.func (.func bA) #[] #[c1,c2]] w fun r w'=>r= .returned (.slice none 0 0)∧∃w1,R w1∧w'=w1.setCell ⟨p,2,none⟩ (.int .i64 er):=by
 obtain⟨A,n,c,k0,k1,k2,f1,f2,hr,h3,h4,h5,h6⟩:=h.cells;have H:=Aj h;have HF:=Aj hf;have HR:=Aj hR;have wG:(er==0)=false:=by simpa using he
 have hen:(er !=0)=true:=by simpa using he
 clear h he hr hf hR;go_enter func165,ntmps165;go_wp2_with (go_at_call 120;refine(az _ _ _ _ _ H.1).mono ?_;rintro r w1 ⟨rfl,rfl⟩);refine HF.1.mono ?_;rintro r w1 ⟨⟨V,rfl⟩,hw1⟩;obtain⟨A',n',c',j0,j1,j2,g1,g2,-⟩:=(HR.1 _ hw1).cells;have HW:=Aj hw1;clear k0 k1 k2 f1 f2 hw1;go_wp2;go_ret;exact⟨rfl,w1,HW.1,rfl⟩
theorem qy (p at_ bA:Nat) (l) (tt) (c1 c2) (w) (R:Value→World→Prop) (h:aK w p l at_ 0)
  (hent:∀args w,(callFunc bA args).run prog w= .ok (.enter bA args) w)
  (hf:Calls prog bA #[.int .i64 (at_:Int),c1,c2] w fun r w'=>∃V,r= .returned (.tuple #[V,.int .i64 tt,.int .i64 0])∧R V w') (hR:∀V w',R V w'→aK w' p l at_ 0):
  Calls prog 165 #[.pointer (some ⟨p,0,none⟩),.func (.func bA) #[] #[c1,c2]] w fun r w'=>∃V,r= .returned V∧∃w1,R V w1∧w'=w1.setCell ⟨p,1,none⟩ (.int .i64 tt):=by
 obtain⟨A,n,c,k0,k1,k2,f1,f2,hr,h3,h4,h5,h6⟩:=h.cells;have H:=Aj h;have HF:=Aj hf;have HR:=Aj hR;clear h hr hf hR;go_enter func165,ntmps165;go_wp2_with (go_at_call 120;refine(az _ _ _ _ _ H.1).mono ?_;rintro r w1 ⟨rfl,rfl⟩);refine HF.1.mono ?_;rintro r w1 ⟨V,rfl,hw1⟩;obtain⟨A',n',c',j0,j1,j2,g1,g2,-⟩:=(HR.1 _ _ hw1).cells;have HW:=Aj hw1;clear k0 k1 k2 f1 f2 hw1;go_wp2;go_ret;exact⟨V,rfl,w1,HW.1,rfl⟩
theorem rZ (p at_) (l) (e) (F) (w) (h:aK w p l at_ e) (he:e≠0):
  Calls prog 169 #[.pointer (some ⟨p,0,none⟩),F] w fun r w'=>r= .returned (.string ⟨#[]⟩)∧w=w':=by
 have H:=Aj h;have wG:(e==0)=false:=by simpa using he
 have hen:(e !=0)=true:=by simpa using he
 clear h he;go_enter func169,ntmps169;go_wp2_with (go_at_call 120;refine(az _ _ _ _ _ H.1).mono ?_;rintro r w1 ⟨rfl,rfl⟩);go_ret;exact⟨rfl,rfl⟩
theorem sj (p at_ bA:Nat) (l) (tt er) (c1 c2) (w) (R:World→Prop) (h:aK w p l at_ 0) (he:er≠0)
  (hent:∀args w,(callFunc bA args).run prog w= .ok (.enter bA args) w)
  (hf:Calls prog bA #[.int .i64 (at_:Int),c1,c2] w fun r w'=>(∃V,r= .returned (.tuple #[V,.int .i64 tt,.int .i64 er]))∧R w') (hR:∀w',R w'→aK w' p l at_ 0):
  Calls prog 169 #[.pointer (some ⟨p,0,none⟩),.func (.func bA) #[] #[c1,c2]] w fun r w'=>r= .returned (.string ⟨#[]⟩)∧∃w1,R w1∧w'=w1.setCell ⟨p,2,none⟩ (.int .i64 er):=by
 obtain⟨A,n,c,k0,k1,k2,f1,f2,hr,h3,h4,h5,h6⟩:=h.cells;have H:=Aj h;have HF:=Aj hf;have HR:=Aj hR;have wG:(er==0)=false:=by simpa using he
 have hen:(er !=0)=true:=by simpa using he
 clear h he hr hf hR;go_enter func169,ntmps169;go_wp2_with (go_at_call 120;refine(az _ _ _ _ _ H.1).mono ?_;rintro r w1 ⟨rfl,rfl⟩);refine HF.1.mono ?_;rintro r w1 ⟨⟨V,rfl⟩,hw1⟩;obtain⟨A',n',c',j0,j1,j2,g1,g2,-⟩:=(HR.1 _ hw1).cells;have HW:=Aj hw1;clear k0 k1 k2 f1 f2 hw1;go_wp2;go_ret;exact⟨rfl,w1,HW.1,rfl⟩
theorem vB (p at_ bA:Nat) (l) (tt) (c1 c2) (w) (R:Value→World→Prop) (h:aK w p l at_ 0)
  (hent:∀args w,(callFunc bA args).run prog w= .ok (.enter bA args) w)
  (hf:Calls prog bA #[.int .i64 (at_:Int),c1,c2] w fun r w'=>∃V,r= .returned (.tuple #[V,.int .i64 tt,.int .i64 0])∧R V w') (hR:∀V w',R V w'→aK w' p l at_ 0):
  Calls prog 169 #[.pointer (some ⟨p,0,none⟩),.func (.func bA) #[] #[c1,c2]] w fun r w'=>∃V,r= .returned V∧∃w1,R V w1∧w'=w1.setCell ⟨p,1,none⟩ (.int .i64 tt):=by
 obtain⟨A,n,c,k0,k1,k2,f1,f2,hr,h3,h4,h5,h6⟩:=h.cells;have H:=Aj h;have HF:=Aj hf;have HR:=Aj hR;clear h hr hf hR;go_enter func169,ntmps169;go_wp2_with (go_at_call 120;refine(az _ _ _ _ _ H.1).mono ?_;rintro r w1 ⟨rfl,rfl⟩);refine HF.1.mono ?_;rintro r w1 ⟨V,rfl,hw1⟩;obtain⟨A',n',c',j0,j1,j2,g1,g2,-⟩:=(HR.1 _ _ hw1).cells;have HW:=Aj hw1;clear k0 k1 k2 f1 f2 hw1;go_wp2;go_ret;exact⟨V,rfl,w1,HW.1,rfl⟩
end
end
end Go.Proofs.YtjcpmfphnodaaaaGreatDoor
