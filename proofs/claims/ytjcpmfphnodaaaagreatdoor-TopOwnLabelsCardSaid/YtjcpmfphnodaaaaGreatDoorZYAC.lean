/- Part 3. -/
import Derived.Test.YtjcpmfphnodaaaaGreatDoorZYAB
import Derived.BigQuiet
import Derived.Deep.RegionWith
import Derived.Deep.DeepCutAuto
namespace Go.Proofs.YtjcpmfphnodaaaaGreatDoor
set_option maxRecDepth 100000
set_option maxHeartbeats 0
open _root_.Go.Proofs.Tryz
section
namespace bK
def st (s:Nat):Nat:=(s/2)^^^ (s%2*3988292384)
def it:Nat→Nat→Nat
 |0,s=>s
 |n+1,s=>it n (st s)
def upd (s:Nat) (l:List UInt8):Nat:=l.foldl (fun s c=>it 8 (s^^^c.toNat)) s
theorem Pv (a b):(a^^^b)/2=(a/2)^^^ (b/2):=by
 have:=Nat.shiftRight_xor_distrib (a:=a) (b:=b) (i:=1);simpa[Cj]using this
theorem Pw (a b):(a^^^b)%2=(a%2)^^^ (b%2):=by
 have:=Nat.xor_mod_two_pow (a:=a) (b:=b) (n:=1);simpa using this
theorem YB (a b):st (a^^^b)=st a^^^st b:=by
 unfold st;rw[Pv,Pw];rcases Dh a with ha|ha<;>rcases Dh b with hb|hb<;>rw[ha,hb]<;>simp
 ·ac_rfl
 ·ac_rfl
 ·have:a/2^^^3988292384^^^ (b/2^^^3988292384)=a/2^^^b/2^^^ (3988292384^^^3988292384):=by ac_rfl
  rw[this];simp
theorem XA {s} (h:s<4294967296):st s<4294967296:=by
 unfold st;have h1:s/2<2^32:=om;have h2:s%2*3988292384<2^32:=om;exact BJ h1 h2
theorem Ut {s} (h:s<4294967296) (h0:st s=0):s=0:=by
 unfold st at h0;have h1:s/2=s%2*3988292384:=by
  have:=congrArg (fun x=>x^^^ (s%2*3988292384)) h0;simpa[Dt]using this
 omega
theorem Ik (n a b):it n (a^^^b)=it n a^^^it n b:=by
 induction n generalizing a b with
 |zero=>rfl
 |succ n ih=>simp only[it,YB,ih]
theorem abm (n) {s} (h:s<4294967296):it n s<4294967296:=by
 induction n generalizing s with
 |zero=>exact h
 |succ n ih=>exact ih (XA h)
theorem Uu (n) {s} (h:s<4294967296) (h0:it n s=0):s=0:=by
 induction n generalizing s with
 |zero=>exact h0
 |succ n ih=>exact Ut h (ih (XA h) h0)
theorem Px (m n s):it (m+n) s=it n (it m s):=by
 induction m generalizing s with
 |zero=>simp[it]
 |succ m ih=>rw[Nat.succ_add];simp only[it];exact ih _
theorem YC (n) {a b} (ha:a<4294967296) (hb:b<4294967296) (h:it n a=it n b):a=b:=by
 have h0:it n (a^^^b)=0:=by rw[Ik,h,Er]
 have:=Uu n (BJ (n:=32) ha hb) h0;have h2:=congrArg (fun x=>x^^^b) this;simpa[Dt]using h2
theorem Ko (k):st (2*k)=k:=by simp[st]
def tab:List Nat:=[0x00000000,0x1db71064,0x3b6e20c8,0x26d930ac,0x76dc4190,0x6b6b51f4,0x4db26158,0x5005713c,0xedb88320,0xf00f9344,0xd6d6a3e8,0xcb61b38c,0x9b64c2b0,0x86d3d2d4,0xa00ae278,0xbdbdf21c]
theorem it4 (s):tab.getD (s%16) 0^^^ (s/16)=it 4 s:=by
 have e:s=(s%16)^^^ (2*(2*(2*(2*(s/16))))):=by
  apply Nat.eq_of_testBit_eq;intro i;rw[Nat.testBit_xor];have e16:(2*(2*(2*(2*(s/16)))))=2^4*(s/2^4):=om;rw[e16,show s%16=s%2^4 from rfl,Nat.testBit_mod_two_pow,Nat.testBit_two_pow_mul,Nat.testBit_div_two_pow];by_cases h:i<4
  ·have:¬i≥4:=by omega
   simp[h,this]
  ·have h4:i≥4:=by omega
   simp[h,h4]
 have h:s%16<16:=Nat.mod_lt _ Ah;have hl:∀n,n<16→tab.getD n 0=it 4 n:=by decide+kernel
 conv=>rhs;rw[e,Ik]
 rw[hl _ h]
 congr 1
 simp only[it,Ko]
theorem Py (i):tab.getD i 0<4294967296:=by
 by_cases h:i<16
 ·have:∀n,n<16→tab.getD n 0<4294967296:=by decide
  exact this i h
 ·have:tab.length≤i:=by simp[tab];omega
  simp[List.getD,BM this]
theorem mD (s a b):upd s (a++b)=upd (upd s a) b:=by simp[upd,List.foldl_append]
theorem abn (c:UInt8):c.toNat<4294967296:=by have:=c.toNat_lt;omega
theorem rY {s} (l) (h:s<4294967296):upd s l<4294967296:=by
 induction l generalizing s with
 |nil=>exact h
 |cons c l ih=>exact ih (abm _ (BJ (n:=32) h (abn c)))
theorem Pz (a b k) (h:a<2^k):a^^^ (2^k*b)=2^k*b+a:=by
 apply Nat.eq_of_testBit_eq;intro i;rw[Nat.testBit_xor,Nat.testBit_two_pow_mul,Nat.testBit_two_pow_mul_add _ h];by_cases hi:i<k
 ·have h2:¬k≤i:=by omega
  simp[hi,h2]
 ·have:a.testBit i=false:=Nat.testBit_lt_two_pow (ku h (kP Ah om));simp[hi,this];omega
def sum (l:List UInt8):Nat:=4294967295^^^upd 4294967295 l
theorem sum_lt (l):sum l<4294967296:=BJ (n:=32) Ah (rY l Ah)
theorem vF (s) (l:List UInt8) (k) (h:k<l.length):upd s (l.take (k+1))=it 8 (upd s (l.take k)^^^l[k].toNat):=by
 rw[Ts h,mD];rfl
theorem sub_eq_xor (u) (h:u<4294967296):4294967295^^^u=4294967295-u:=by
 apply Nat.eq_of_testBit_eq;intro i;rw[Nat.testBit_xor,show(4294967295:Nat)-u=2^32-(u+1)from om,Nat.testBit_two_pow_sub_succ h,show(4294967295:Nat)=2^32-1 from rfl,Nat.testBit_two_pow_sub_one];by_cases hi:i<32
 ·simp[hi]
 ·have:u.testBit i=false:=Nat.testBit_lt_two_pow (ku h (kP (n:=2) Ah (show 32≤i from om)));simp[hi,this]
theorem Uv (l):sum l=4294967295-upd 4294967295 l:=sub_eq_xor _ (rY l Ah)
def four (s:Nat):List UInt8:=[UInt8.ofNat s,UInt8.ofNat (s/256),UInt8.ofNat (s/65536),UInt8.ofNat (s/16777216)]
theorem oK (s k) (h:k≤4):((four s).take k).length=k:=by simp[four];omega
theorem ME (l s k) (h:k<4):l++(four s).take (k+1)=l++(four s).take k++[UInt8.ofNat (s/2^ (8*k))]:=by
 rcases k with _|_|_|_|k<;>simp[four]
 omega
def app (l:List UInt8):List UInt8:=l++four (sum l)
def df (l:List UInt8):Bool:=decide (4≤l.length)&& (l==app (l.take (l.length-4)))
theorem MF (l) (h:l.length<4):df l=false:=by simp[df];omega
theorem PG (l) (h:4≤l.length):df l=(l.drop (l.length-4)==four (sum (l.take (l.length-4)))):=by
 unfold df app;rw[Bi h,Bool.true_and,Bool.eq_iff_iff,beq_iff_eq,beq_iff_eq];constructor
 ·intro e;have:=congrArg (fun x=>x.drop (l.length-4)) e;rw[List.drop_append]at this;simpa[oF,show min (l.length-4) l.length=l.length-4 from om]using this
 ·intro e;rw[←e,jH]
theorem PH (s):(four s).length=4:=rfl
theorem PI (s k:Nat) (h:k<4):(four s)[k]? =some (UInt8.ofNat (s/2^ (8*k))):=by
 rcases k with _|_|_|_|k<;>simp[four]
 omega
theorem MG (l:List UInt8) (s m k) (h:k<4) (hl:m+k<l.length) (x) (hx:x=UInt8.ofNat (s/2^ (8*k))) (he:(l.drop m).take k=(four s).take k):
  (l[m+k]=x→(l.drop m).take (k+1)=(four s).take (k+1))∧(¬l[m+k]=x→(l.drop m==four s)=false):=by
 have hg:(four s)[k]? =some x:=by rw[PI s k h,hx]
 have hd:(l.drop m)[k]? =some l[m+k]:=by rw[List.getElem?_drop,kK hl]
 constructor
 ·intro e;rw[List.take_add_one,List.take_add_one,he,hg,hd,e]
 ·intro e;rw[beq_eq_false_iff_ne];intro h2;rw[h2,hg]at hd
  injection hd with h3
  exact e h3.symm
theorem Uw (x):it 8 (256*x)=x:=by
 rw[show 256*x=2*(2*(2*(2*(2*(2*(2*(2*x)))))))from om];simp only[it,Ko]
theorem aeC (s a b c d):
  it 8 (it 8 (it 8 (it 8 (s^^^a)^^^b)^^^c)^^^d)=it 32 (s^^^a^^^ (256*b)^^^ (256*(256*c))^^^ (256*(256*(256*d)))):=by
 simp only[show(32:Nat)=8+(8+(8+8))from rfl,Px,Ik,Uw]
theorem xO (a b k) (h:a<2^k):a^^^ (2^k*b)=2^k*b+a:=Pz a b k h
def num (a b c d:UInt8):Nat:=a.toNat+256*b.toNat+65536*c.toNat+16777216*d.toNat
theorem YD (a b c d):num a b c d<4294967296:=by
 have:=a.toNat_lt;have:=b.toNat_lt;have:=c.toNat_lt;have:=d.toNat_lt;unfold num;omega
theorem Ux (a b c d):a.toNat^^^ (256*b.toNat)^^^ (256*(256*c.toNat))^^^ (256*(256*(256*d.toNat)))=num a b c d:=by
 have ha:=a.toNat_lt;have hb:=b.toNat_lt;have hc:=c.toNat_lt;have hd:=d.toNat_lt;have e1:=xO a.toNat b.toNat 8 om;have e2:=xO (2^8*b.toNat+a.toNat) c.toNat 16 om;have e3:=xO (2^16*c.toNat+(2^8*b.toNat+a.toNat)) d.toNat 24 om;rw[show 256*(256*c.toNat)=2^16*c.toNat from om,show 256*(256*(256*d.toNat))=2^24*d.toNat from om,show 256*b.toNat=2^8*b.toNat from om,e1,e2,e3];unfold num;omega
theorem zV (s a b c d):upd s [a,b,c,d]=it 32 (s^^^num a b c d):=by
 rw[←Ux,←Dt,←Dt,←Dt,←aeC];rfl
theorem zX (s:Nat) (h:s<4294967296):num (UInt8.ofNat s) (UInt8.ofNat (s/256)) (UInt8.ofNat (s/65536)) (UInt8.ofNat (s/16777216))=s:=by
 unfold num;simp only[Dp];omega
theorem PK (a b c d):four (num a b c d)=[a,b,c,d]:=by
 have ha:=a.toNat_lt;have hb:=b.toNat_lt;have hc:=c.toNat_lt;have hd:=d.toNat_lt;unfold four num;have h (x:UInt8) (n:Nat) (e:n%256=x.toNat):UInt8.ofNat n=x:=by apply UInt8.toNat_inj.1;rw[Dp];exact e
 rw[h a _ om,h b _ om,h c _ om,h d _ om]
theorem Uy (l):df l=true↔4≤l.length∧upd 4294967295 l=it 32 4294967295:=by
 unfold df;by_cases h:4≤l.length
 ·simp only[h,decide_true,Bool.true_and,true_and,beq_iff_eq];have hl:(l.drop (l.length-4)).length=4:=by rw[lZ];omega
  have hs:l=l.take (l.length-4)++l.drop (l.length-4):=(jH _ _).symm;generalize l.take (l.length-4)=p at*;generalize l.drop (l.length-4)=t at*
  match t,hl with
  |[a,b,c,d],_=>
  subst hs;have hp:=rY p (s:=4294967295) Ah;have hn:=YD a b c d;unfold app;rw[List.append_cancel_left_eq,mD,zV];constructor
  ·intro e;have:num a b c d=sum p:=by
    have e2:=zX (sum p) (sum_lt p);unfold four at e
    injection e with e0 e;injection e with e1 e;injection e with e3 e;injection e with e4 e
    rw[e0,e1,e3,e4];exact e2
   rw[this];unfold sum
   congr 1
   rw[Nat.xor_comm,Dt,Er,Nat.xor_zero]
  ·intro e;have e1:=YC 32 (BJ (n:=32) hp hn) Ah e;have e2:sum p=num a b c d:=by
    unfold sum;generalize upd 4294967295 p=u at*;rw[←e1,Nat.xor_comm u,Dt,Er,Nat.xor_zero]
   rw[e2,PK]
 ·simp[h]
theorem Kq (l):df (app l)=true:=by
 rw[Uy];refine⟨by simp[app,four],?_⟩;unfold app four;rw[mD,zV,zX _ (sum_lt _)];unfold sum
 congr 1
 rw[Nat.xor_comm,Dt,Er,Nat.xor_zero]
end bK
end
section
section
open Go.RowKit
def gq (w:World):Prop:=∀i,i<16→w.cell? ⟨1,i,none⟩=some (.int .u32 ((bK.tab.getD i 0:Nat):Int))
theorem gq.lt {w} (h:gq w):1<w.heap.size:=Bc w _ (h 0 Ah)
theorem gq.below {w w'} (h:gq w) (hb:Below w.heap.size w w'):gq w':=fun i hi=>(hb.cell (p:=⟨_,i,none⟩) h.lt).trans (h i hi)
theorem gq.alloc {w} (h:gq w) (o):gq (w.alloc o):=h.below ((Ae _ w).alloc Ai o)
theorem Uz (s:Nat) (A n c l w B) (hs:s<4294967296) (hv:aZ w B A n c l) (ht:gq w):
  Calls prog 201 #[.int .u32 (s:Int),.slice A n c] w fun e w'=>e= .returned (.int .u32 ((bK.upd s l:Nat):Int))∧w=w':=by
 obtain rfl:=hv.len;have hlc:=hv.1;have hcm:=hv.2.1;unfold maxLen at hcm;go_enter func201,ntmps201;go_wp2;go_loop [0,9] (fun t i=>∃k:Nat,k≤l.length∧i= .int .i64 k∧t= .int .u32 ((bK.upd s (l.take k):Nat):Int)) (fun _ i=>l.length-(intOf i).toNat)
 case atStart=>exact⟨0,bE _,rfl,rfl⟩
 case round=>
  obtain⟨k,hk,rfl,rfl⟩:=hrel;by_cases hlt:k<l.length
  ·obtain⟨b,off,rfl,hb,hck⟩:=hv.at_ hlt;have hU:=bK.rY (l.take k) hs;have hC:l[k].toNat<256:=l[k].toNat_lt;have hst:=bK.vF s l k hlt;generalize bK.upd s (l.take k)=u at*;generalize l[k]=x at*;clear hv;obtain⟨a,ha⟩:∃a,a=u^^^x.toNat:=⟨_,rfl⟩
   have haU:a<4294967296:=by rw[ha];exact BJ (n:=32) hU om
   have e1:bits .xor .u32 (u:Int) (x.toNat:Int)=(a:Int):=by rw[ha];exact u32_xor_nat _ _ hU om
   have e2:bits .and .u32 (a:Int) 15=((a%16:Nat):Int):=by rw[←nat_mask4];exact u32_and_nat _ 15 haU om
   have t1:=ht (a%16) om;have h4:=bK.it4 a;have hT1:=bK.Py (a%16);generalize bK.tab.getD (a%16) 0=y1 at*;obtain⟨b1,hb1⟩:∃b,b=y1^^^a/16:=⟨_,rfl⟩
   have hbU:b1<4294967296:=by rw[hb1];exact BJ (n:=32) hT1 om
   have e3:bits .xor .u32 (y1:Int) ((a:Int)/16)=(b1:Int):=by rw[hb1,←u32_xor_nat y1 (a/16) hT1 om];rfl
   have e4:bits .and .u32 (b1:Int) 15=((b1%16:Nat):Int):=by rw[←nat_mask4];exact u32_and_nat _ 15 hbU om
   have t2:=ht (b1%16) om;have h5:=bK.it4 b1;have wM:=bK.Py (b1%16);generalize bK.tab.getD (b1%16) 0=y2 at*;obtain⟨b2,hb2⟩:∃b,b=y2^^^b1/16:=⟨_,rfl⟩
   have e5:bits .xor .u32 (y2:Int) ((b1:Int)/16)=(b2:Int):=by rw[hb2,←u32_xor_nat y2 (b1/16) wM om];rfl
   have fin:Hid (b2=bK.upd s (l.take (k+1))):=by
    show b2=_;rw[hst,←ha,show(8:Nat)=4+4 from rfl,bK.Px,←h4,←hb1,←h5,hb2]
   clear ha hb1 hb2 hst h4 h5 hT1 wM;go_wp2;go_round
   case rel=>exact⟨k+1,om,by go_num,by rw[fin.out]⟩
   case measure=>simp[intOf];omega
  ·obtain rfl:k=l.length:=by omega
   rw[List.take_length];go_wp2;go_ret;exact⟨rfl,rfl⟩
end
end
section
section
open Go.RowKit
theorem Kr (A n c l w B) (hv:aZ w B A n c l) (ht:gq w):
  Calls prog 148 #[.slice A n c] w fun e w'=>e= .returned (.int .u32 ((bK.sum l:Nat):Int))∧w=w':=by
 have hU:=bK.rY l (s:=4294967295) Ah;have hS:Hid (bK.sum l=4294967295-bK.upd 4294967295 l):=bK.Uv l;go_enter func148,ntmps148;go_wp2_with (go_at_call 201;refine(Uz 4294967295 _ _ _ l _ B Ah hv ht).mono ?_;rintro e w' ⟨rfl,rfl⟩);go_ret;refine⟨fZ ?_,rfl⟩;rw[hS.out,←bK.sub_eq_xor _ hU];exact u32_xor_nat 4294967295 _ Ah hU
end
end
section
section
open Go.RowKit
theorem MH (A1 A2 n1 n2 c1 c2 l1 l2 w B1 B2) (h1:aZ w B1 A1 n1 c1 l1) (h2:aZ w B2 A2 n2 c2 l2):
  Calls prog 18 #[.slice A1 n1 c1,.slice A2 n2 c2] w fun e w'=>e= .returned (.bool (l1==l2))∧w=w':=by
 have k1:=bG w B1 A1 n1 c1 l1 h1;have k2:=bG w B2 A2 n2 c2 l2 h2;go_enter func18,ntmps18;go_wp2;go_ret;exact⟨rfl,rfl⟩
theorem rZ (A n c l w B) (hv:aZ w B A n c l) (ht:gq w) (hB:B≤w.heap.size) (hl:l.length≤140737488355232):
  Calls prog 91 #[.slice A n c] w fun e w'=>∃A2 n2 c2,e= .returned (.slice A2 n2 c2)∧ah w' w.heap.size A2 n2 c2 (bK.app l)∧Below w.heap.size w w':=by
 obtain rfl:=hv.len;have hlc:=hv.1;have hcm:=hv.2.1;have hsz:=ht.lt;unfold maxLen at hcm;go_enter func91,ntmps91;go_wp2_with (first
  |(at_builtin;refine dZ rfl (.tmp 6) (.tmp 7) rfl w.heap.size _ _ _ [] rfl (ah.made w _ Ai) B _ _ _ l rfl (Rd.alloc hv hB _) om sm ?_;intro A2 c2 w1 hown1 hgrow1 UA;have hb1:Below w.heap.size w w1:=((Ae _ w).alloc Ai _).grown hgrow1 sm (by simp[ab])))
 refine(Kr _ _ _ l _ B (hv.below (hb1.mono hB)) (ht.below hb1)).mono ?_;rintro e w2 ⟨rfl,rfl⟩;go_wp2_with fail;have hS:=bK.sum_lt l;generalize hs:bK.sum l=s at*;have Hs:=hide hs;clear hs hgrow1 UA;go_loopw [3,11] (fun v i wr=>∃k:Nat,k≤4∧i= .int .i64 k∧∃A3 n3 c3,v= .slice A3 n3 c3∧ah wr w.heap.size A3 n3 c3 (l++(bK.four s).take k)∧Below w.heap.size w wr) (fun _ i _=>4-(intOf i).toNat)
 case atStart=>exact⟨0,bE _,rfl,A2,_,c2,rfl,by simpa using hown1,hb1⟩
 case round=>
  obtain⟨k,hk,rfl,A3,n3,c3,rfl,ho,hb⟩:=hrel;by_cases hlt:k<4
  ·obtain⟨x,hx⟩:∃x:UInt8,x=UInt8.ofNat (s/2^ (8*k)):=⟨_,rfl⟩
   have e1:(s:Int)/2^ (8*k)%256=(x.toNat:Int):=by rw[hx,Dp];simp
   have Hx:Hid (l++(bK.four s).take (k+1)=l++(bK.four s).take k++[x]):=by rw[hx];exact bK.ME l s k hlt
   have Hn:=ho.len;have Hf:=bK.oK s k om;rw[La,Hf]at Hn;have nz:n3+1≤140737488355328:=om;have hz:=hb.size;clear hx Hn Hf;go_wp2_with (first
    |(at_builtin;refine dZ rfl (.tmp 14) (.tmp 20) rfl w.heap.size A3 n3 c3 _ rfl (Oa ho _) (wr.heap.size+1) _ _ _ [x] rfl (aZ.one wr x) nz (by simp;omega) ?_;intro A4 c4 w4 av af cu))
   go_roundw
   case rel=>
    refine⟨k+1,om,by go_num,A4,_,c4,rfl,?_,?_⟩
    ·rw[Hx.out];exact av
    ·exact(hb.alloc hz _).grown af (by simp;omega) (fun g hg=>(ae ho g hg).1)
   case measure=>simp[intOf];omega
  ·obtain rfl:k=4:=by omega
   go_wp2;go_ret;refine⟨A3,n3,c3,rfl,?_,hb⟩;unfold bK.app;rw[Hs.out];exact ho
theorem wN (A n c l w B) (hv:aZ w B A n c l) (ht:gq w):
  Calls prog 116 #[.slice A n c] w fun e w'=>e= .returned (.bool (bK.df l))∧w=w':=by
 have hlc:=hv.1;have hcm:=hv.2.1;have hn:=hide hv.len;unfold maxLen at hcm;by_cases h4:4≤n
 ·obtain⟨b,off,rfl,hb,hcell⟩:=hv.2.2.2 om;have hdrop:=hide (bK.PG l (by rw[←hn.out];exact h4));obtain⟨m,rfl⟩:∃m,n=m+4:=⟨n-4,om⟩
  rw[←hn.out,Bz]at hdrop;have htk:aZ w B (some ⟨b,off,none⟩) m c (l.take m):=hv.take om;clear hv;go_enter func116,ntmps116;go_wp2_with fail;refine(Kr _ _ _ (l.take m) _ B htk ht).mono ?_;rintro e w2 ⟨rfl,rfl⟩;go_wp2_with fail;have hS:=bK.sum_lt (l.take m);generalize bK.sum (l.take m)=s at*;go_loop [20] (fun i=>∃k:Nat,k≤4∧i= .int .i64 k∧Hid ((l.drop m).take k=(bK.four s).take k)) (fun i=>4-(intOf i).toNat)
  case atStart=>exact⟨0,bE _,rfl,rfl⟩
  case round=>
   obtain⟨k,hk,rfl,heq⟩:=hrel;by_cases hlt:k<4
   ·have hkl:m+k<l.length:=by have:=hn.out;omega
    have hck:=hcell (m+k) (bv l[m+k]) (by simp[jY,hkl]);rw[←fE]at hck;unfold bv at hck;obtain⟨x,hx⟩:∃x:UInt8,x=UInt8.ofNat (s/2^ (8*k)):=⟨_,rfl⟩
    have e1:(s:Int)/2^ (8*k)%256=(x.toNat:Int):=by rw[hx,Dp];simp
    have hstep:=hide (bK.MG l s m k hlt hkl x hx heq.out);clear hx;generalize l[m+k]=y at*;by_cases hxy:y=x
    ·have ht:((y.toNat:Int) !=(x.toNat:Int))=false:=by rw[hxy];simp
     go_wp2;go_round
     case rel=>exact⟨k+1,om,by go_num,hstep.out.1 hxy⟩
     case measure=>simp[intOf];omega
    ·have ht:((y.toNat:Int) !=(x.toNat:Int))=true:=by
      rw[bne_iff_ne];intro h;exact hxy (UInt8.toNat_inj.1 om)
     go_wp2;go_ret;refine⟨kN ?_,rfl⟩;rw[hdrop.out,hstep.out.2 hxy]
   ·obtain rfl:k=4:=by omega
    go_wp2;go_ret;refine⟨kN ?_,rfl⟩;rw[hdrop.out];have:=heq.out;have hl4:(l.drop m).length=4:=by rw[lZ];have:=hn.out;omega
    rw[iL om,iL (by rw[bK.PH];omega)]at this;rw[this,beq_self_eq_true]
 ·have hs:=bK.MF l (by rw[←hn.out];omega);rw[hs];go_enter func116,ntmps116;go_wp2;go_ret;exact⟨rfl,rfl⟩
end
end
section
section
open Go.RowKit Go.Shelf
theorem ah.nil (w base):ah w base none 0 0 []:=AV _ _ _ _
theorem ah.base {w base base' n c A l} (h:ah w base A n c l) (hb:base'≤base):ah w base' A n c l:=by
 refine⟨h.1,?_⟩;rcases h.2 with hn|⟨g,cap,cur,hv,h1,rest⟩
 ·exact .inl hn
 ·exact .inr ⟨g,cap,cur,hv,om,rest⟩
theorem ah.keep {w w' base n c A l} (h:ah w base A n c l) (hb:Below w.heap.size w w'):ah w' base A n c l:=own_below h hb (fun g hg=>(ae h g hg).2)
theorem gq.base {w w' base} (h:gq w) (hg:1<base) (hb:Below base w w'):gq w':=fun i hi=>(hb.cell (p:=⟨_,i,none⟩) hg).trans (h i hi)
theorem xP {w W W'} (h:Below w.heap.size w W) (h2:Below W.heap.size W W'):Below w.heap.size w W':=h.trans (h2.mono h.size)
theorem aG {w w' base n c A l} (h:ah w base A n c l) (hb:base≤w.heap.size) (hg:w.grownBy w' (ab A)):Below base w w':=
 (Ae _ w).grown hg hb (fun g e=>(ae h g e).1)
theorem mh {w ops rest o a Q} (hgd:o.guard=none) (s x)
  (ho:o.op= .call {callee:= .builtin .append,args:= #[s,x],argTypes:= #[22,9]})
  (base A n c l) (hs:a.eval s= .slice A n c) (hown:ah w base A n c l)
  (str) (hx:a.eval x= .string str) (hlen:n+str.size≤140737488355328) (hbase:base≤w.heap.size)
  (h:∀A2 c2 w',ah w' base A2 (n+str.size) c2 (l++str.data.toList)→w.grownBy w' (ab A)→wpList prog ops Q rest (a.put o.dst (.slice A2 (n+str.size) c2)) w'):wpList prog ops Q (o::rest) a w:=by
 obtain⟨i0,hi0,hz0,hz1,hz2⟩:=AX Kl;refine Lib.wpList_append_own_string (P:=prog) w hgd s x _ _ ho base 5 i0 underlying22 underlying9 hi0 hz0 hz1 hz2 (.slice A n c) n (jY l) hs hown str hx (by unfold maxLen;omega) hlen hbase ?_;intro v' w' h2 h3 _;obtain⟨A2,c2,rfl,_⟩:=zT h2;rw[gV]at h3;refine h A2 c2 w' ?_ h3;have e:jY l++Lib.strCells str=jY (l++str.data.toList):=by rw[jG];rfl
 rw[e]at h2;exact h2
theorem fI (A n c B l w) (hv:aZ w B A n c l) (hB:B≤w.heap.size) (hl:n≤140737488355232):
  Calls prog 164 #[.slice A n c] w fun e w'=>∃A3 c3,e= .returned (.slice A3 n c3)∧ah w' w.heap.size A3 n c3 l∧Below w.heap.size w w':=by
 have hlc:=hv.1;have hcm:=hv.2.1;unfold maxLen at hcm;have Hv:=Aj hv;have hn:=Aj hv.len;clear hv;have qT:∀(w:World) (a:Option Addr) (n c n' c':Nat),(binOp .eql 22 (.slice a n c) (.slice none n' c')).run prog w= .ok (.bool a.isNone) w:=fun w a n c n' c'=>Lib.run_eql_slice_nil w _ _ a n c n' c' underlying22
 cases A with
 |none=>
  have h0:n=0:=by
   rcases l5 n with h|h
   ·exact h
   ·obtain⟨b,off,e,_⟩:=Hv.1.2.2.2 h;cases e
  subst h0;obtain rfl:l=[]:=oG hn.1.symm;go_enter func164,ntmps164;go_wp2;go_ret;exact⟨none,0,rfl,ah.nil _ _,Ae _ _⟩
 |some a=>
  go_enter func164,ntmps164;go_wp2_with (at_builtin;refine dZ rfl (.tmp 5) (.tmp 6) rfl w.heap.size _ _ _ [] rfl (ah.made w _ Ai) B _ _ _ l rfl (Rd.alloc Hv.1 hB _) om sm ?_;intro A2 c2 w1 hown1 hgrow1 UA;have hb1:Below w.heap.size w w1:=((Ae _ w).alloc Ai _).grown hgrow1 sm (by simp[ab]));rw[Az,bZ]at hown1;go_ret;exact⟨A2,c2,rfl,hown1,hb1⟩
def Wr.str (d:List UInt8):List UInt8:=Vi.enc d.length++d
def Wr.frame (id:UInt8) (d:List UInt8):List UInt8:=bK.app (id::Wr.str d)
theorem Wr.rE (d) (h:d.length≤140737488355328):(Wr.str d).length≤d.length+10:=by
 have:=Vi.bq d.length om;unfold Wr.str;rw[La];omega
theorem jZ (A n c base l s w) (ho:ah w base A n c l) (hB:base≤w.heap.size) (hn:n+s.size≤140737488354000):
  Calls prog 146 #[.slice A n c,.string s] w fun e w'=>∃A3 n3 c3,e= .returned (.slice A3 n3 c3)∧ah w' base A3 n3 c3 (l++Wr.str s.data.toList)∧Below base w w':=by
 have Ho:=Aj ho;have hlen:=Aj ho.len;have hs:s.size≤140737488354000:=om;have hel:=Aj (Vi.bq s.size om);have hst:Kept (Wr.str s.data.toList=Vi.enc s.size++s.data.toList):=⟨by unfold Wr.str;simp⟩
 clear ho;go_enter func146,ntmps146;go_wp2_with (first
  |(go_at_call 145;refine(dm _ _ _ base s.size l _ Ho.1 hB om om).mono ?_;rintro e w1 ⟨A1,n1,c1,rfl,ho1,hg1,-⟩;have hn1:n1≤n+10:=(by have h1:=ho1.len;have h2:=hel.1;have h3:=hlen.1;simp at h1;omega);have O1:=Aj ho1;have b1:=aG Ho.1 hB hg1;have z1:=b1.size;clear ho1 hg1)
  |(at_builtin;refine mh rfl (.tmp 9) (.tmp 10) rfl base _ _ _ _ rfl O1.1 s rfl om om ?_;intro A4 c4 w4 av af))
 go_ret;refine⟨A4,_,c4,rfl,?_,b1.trans (aG O1.1 om af)⟩;rw[hst.1,←Af];exact av
end
end
section
section
open Go.RowKit Go.Shelf
theorem bK.jh (l):(bK.app l).length=l.length+4:=by simp[bK.app,bK.four]
theorem Wr.lD (id d) (h:d.length≤140737488355328):(Wr.frame id d).length≤d.length+15:=by
 have:=Wr.rE d h;unfold Wr.frame;rw[bK.jh,Lc];omega
end
end
section
section
open Go.RowKit Go.Shelf
theorem ak (w:World) (a v):w.grownBy (w.setCell a v) (some a.block):=
 ⟨rfl,rfl,rfl,sm,fun k _ hne=>AL w a v k (fun e=>hne (by rw[e]))⟩
def aJ (w:World) (p:Nat) (l:List UInt8) (at_:Nat) (e:Int):Prop:=
 ∃A n c,w.heap[p]? =some (.cells #[.slice A n c,.int .i64 (at_:Int),.int .i64 e] 270 (0,0))∧aZ w p A n c l∧n≤140737488354000∧at_≤n
theorem aJ.lt {w p at_ l e} (h:aJ w p l at_ e):p<w.heap.size:=by
 obtain⟨A,n,c,h,_⟩:=h;exact(Ge.1 h).1
theorem aJ.len {w p at_ l e} (h:aJ w p l at_ e):l.length≤140737488354000∧at_≤l.length:=by
 obtain⟨A,n,c,_,h,h2,h3⟩:=h;have:=h.len;omega
theorem aJ.below {w w' p at_ l e} (h:aJ w p l at_ e) {B} (hb:Below B w w') (hB:p<B):aJ w' p l at_ e:=by
 obtain⟨A,n,c,h1,h2,h3,h4⟩:=h;exact⟨A,n,c,(hb.block p hB).trans h1,aZ.below h2 (hb.mono om),h3,h4⟩
theorem aJ.move {w p at_ l e} (h:aJ w p l at_ e) (a) (ha:a≤l.length):aJ (w.setCell ⟨p,1,none⟩ (.int .i64 (a:Int))) p l a e:=by
 obtain⟨A,n,c,h1,h2,h3,h4⟩:=h;exact⟨A,n,c,by rw[Ag w p 1 _ _ _ h1];rfl,h2.setCell (p:=⟨p,1,none⟩) Ai _,h3,by have:=h2.len;omega⟩
theorem aJ.fail {w p at_ l e} (h:aJ w p l at_ e) (f):aJ (w.setCell ⟨p,2,none⟩ (.int .i64 f)) p l at_ f:=by
 obtain⟨A,n,c,h1,h2,h3,h4⟩:=h;exact⟨A,n,c,by rw[Ag w p 2 _ _ _ h1];rfl,h2.setCell (p:=⟨p,2,none⟩) Ai _,h3,h4⟩
theorem aJ.cells {w p at_ l e} (h:aJ w p l at_ e):∃A n c,w.cell? ⟨p,0,none⟩=some (.slice A n c)∧w.cell? ⟨p,1,none⟩=some (.int .i64 (at_:Int))∧w.cell? ⟨p,2,none⟩=some (.int .i64 e)∧
  w.frozen? ⟨p,1,none⟩=false∧w.frozen? ⟨p,2,none⟩=false∧aZ w p A n c l∧n≤140737488354000∧at_≤n∧n≤c∧c≤9223372036854775807:=by
 obtain⟨A,n,c,h1,h2,h3,h4⟩:=h;have hc:=h2.2.1;unfold maxLen at hc;exact⟨A,n,c,Co _ _ _ _ _ _ h1,Co _ _ _ _ _ _ h1,Co _ _ _ _ _ _ h1,Fr _ _ _ _ _ h1,Fr _ _ _ _ _ h1,h2,h3,h4,h2.1,om⟩
theorem ay (p at_ l e w) (h:aJ w p l at_ e):Calls prog 120 #[.pointer (some ⟨p,0,none⟩)] w fun r w'=>r= .returned (.int .i64 e)∧w=w':=by
 obtain⟨A,n,c,c0,c1,c2,f1,f2,hr,h3,h4,h5,h6⟩:=h.cells;clear h hr;go_enter func120,ntmps120;go_wp2;go_ret;exact⟨rfl,rfl⟩
theorem iX (p at_ l e w) (h:aJ w p l at_ e):Calls prog 112 #[.pointer (some ⟨p,0,none⟩)] w fun r w'=>r= .returned (.int .i64 (at_:Int))∧w=w':=by
 obtain⟨A,n,c,c0,c1,c2,f1,f2,hr,h3,h4,h5,h6⟩:=h.cells;clear h hr;go_enter func112,ntmps112;go_wp2;go_ret;exact⟨rfl,rfl⟩
theorem ji (p at_ l e a w) (h:aJ w p l at_ e) (h0:0≤a) (h1:a≤9223372036854775807):Calls prog 167 #[.pointer (some ⟨p,0,none⟩),.int .i64 a] w fun r w'=>r= .returned (.int .i64 ((l.length:Int)-a))∧w=w':=by
 obtain⟨A,n,c,c0,c1,c2,f1,f2,hr,h3,h4,h5,h6⟩:=h.cells;have hl:=Aj hr.len;clear h hr;go_enter func167,ntmps167;go_wp2;go_ret;exact⟨by rw[←hl.1];rfl,rfl⟩
theorem dx (p at_ l e f w) (h:aJ w p l at_ e):Calls prog 114 #[.pointer (some ⟨p,0,none⟩),.int .i64 f] w fun r w'=>r= .returned (.tuple #[])∧aJ w' p l at_ (if e=0 then f else e)∧w.grownBy w' (some p):=by
 obtain⟨A,n,c,c0,c1,c2,f1,f2,hr,h3,h4,h5,h6⟩:=h.cells;have H:=Aj h;clear h hr;by_cases he:e=0
 ·subst he;go_enter func114,ntmps114;go_wp2;go_end0;exact⟨rfl,H.1.fail f,ak w ⟨p,2,none⟩ _⟩
 ·have xQ:(e==0)=false:=by simpa using he
  have hif:Kept ((if e=0 then f else e)=e):=⟨Ng he⟩
  rw[hif.1];clear he;go_enter func114,ntmps114;go_wp2;go_end0;exact⟨rfl,H.1,Dn _ _⟩
def Wr.fin (l:List UInt8) (at_:Nat) (e:Int):Int:=if e≠0 then e else if at_<l.length then 4 else 0
theorem gQ (p at_ l e w) (h:aJ w p l at_ e):Calls prog 117 #[.pointer (some ⟨p,0,none⟩)] w fun r w'=>r= .returned (.int .i64 (Wr.fin l at_ e))∧w=w':=by
 obtain⟨A,n,c,c0,c1,c2,f1,f2,hr,h3,h4,h5,h6⟩:=h.cells;have H:=Aj h;have hl:=Aj hr.len;clear h hr;by_cases he:e=0
 ·subst he;have hfin:Kept (Wr.fin l at_ 0=if at_<l.length then 4 else 0):=⟨by unfold Wr.fin;rw[Ng sm]⟩
  have h7:Kept (((l.length:Int)-(at_:Int))=(n:Int)-(at_:Int)):=⟨by rw[←hl.1]⟩
  by_cases hlt:at_<n
  ·have hlt':(at_:Int)< (n:Int):=by omega
   go_enter func117,ntmps117;go_wp2_with (first
    |(go_at_call 120;refine(ay _ _ _ _ _ H.1).mono ?_;rintro r w1 ⟨rfl,rfl⟩)
    |(go_at_call 167;refine(ji _ _ _ _ _ _ H.1 om om).mono ?_;rintro r w1 ⟨rfl,rfl⟩;rw[h7.1]))
   go_ret;exact⟨by rw[hfin.1,Ps0 (by rw[←hl.1];exact hlt)];rfl,rfl⟩
  ·obtain rfl:at_=n:=by omega
   go_enter func117,ntmps117;go_wp2_with (first
    |(go_at_call 120;refine(ay _ _ _ _ _ H.1).mono ?_;rintro r w1 ⟨rfl,rfl⟩)
    |(go_at_call 167;refine(ji _ _ _ _ _ _ H.1 om om).mono ?_;rintro r w1 ⟨rfl,rfl⟩;rw[h7.1]))
   go_ret;exact⟨by rw[hfin.1,Ng (by rw[←hl.1];omega)];rfl,rfl⟩
 ·have xQ:(e==0)=false:=by simpa using he
  have hen:(e !=0)=true:=by simpa using he
  have hfin:Kept (Wr.fin l at_ e=e):=⟨by unfold Wr.fin;rw[Ps0 he]⟩
  clear he;go_enter func117,ntmps117;go_wp2_with (go_at_call 120;refine(ay _ _ _ _ _ H.1).mono ?_;rintro r w1 ⟨rfl,rfl⟩);go_ret;exact⟨by rw[hfin.1];rfl,rfl⟩
end
end
section
section
open Go.RowKit Go.Shelf
theorem dK (A n c B l w) (hv:aZ w B A n c l) (hB:B≤w.heap.size) (hn:n≤140737488354000):
  Calls prog 110 #[.slice A n c] w fun r w'=>∃p,r= .returned (.pointer (some ⟨p,0,none⟩))∧w.heap.size≤p∧p<w'.heap.size∧aJ w' p l 0 0∧Below w.heap.size w w':=by
 have Hv:=Aj hv;have hlc:=hv.1;clear hv;go_enter func110,ntmps110;go_wp2_with (go_at_call 164;refine(fI _ _ _ B l _ Hv.1 hB om).mono ?_;rintro e w1 ⟨A1,c1,rfl,ho,hb⟩);go_ret;have hz:=hb.size;exact⟨w1.heap.size,rfl,hz,sm,⟨A1,n,c1,Av w1 _,ho.rd.alloc Ai _,hn,bE _⟩,hb.alloc hz _⟩
theorem xR (p at_ l e F w) (h:aJ w p l at_ e) (he:e≠0):
  Calls prog 227 #[.pointer (some ⟨p,0,none⟩),F] w fun r w'=>r= .returned (.int .u64 0)∧w=w':=by
 have H:=Aj h;have xQ:(e==0)=false:=by simpa using he
 have hen:(e !=0)=true:=by simpa using he
 clear h he;go_enter func227,ntmps227;go_wp2_with (go_at_call 120;refine(ay _ _ _ _ _ H.1).mono ?_;rintro r w1 ⟨rfl,rfl⟩);go_ret;exact⟨rfl,rfl⟩
theorem xS (p at_ aP:Nat) (l tt er c1 c2 w) (R:World→Prop) (h:aJ w p l at_ 0) (he:er≠0)
  (hent:∀args w,(callFunc aP args).run prog w= .ok (.enter aP args) w)
  (hf:Calls prog aP #[.int .i64 (at_:Int),c1,c2] w fun r w'=>(∃V,r= .returned (.tuple #[V,.int .i64 tt,.int .i64 er]))∧R w') (hR:∀w',R w'→aJ w' p l at_ 0):
  Calls prog 227 #[.pointer (some ⟨p,0,none⟩),.func (.func aP) #[] #[c1,c2]] w fun r w'=>r= .returned (.int .u64 0)∧∃w1,R w1∧w'=w1.setCell ⟨p,2,none⟩ (.int .i64 er):=by
 obtain⟨A,n,c,k0,k1,k2,f1,f2,hr,h3,h4,h5,h6⟩:=h.cells;have H:=Aj h;have HF:=Aj hf;have HR:=Aj hR;have xQ:(er==0)=false:=by simpa using he
 have hen:(er !=0)=true:=by simpa using he
 clear h he hr hf hR;go_enter func227,ntmps227;go_wp2_with (go_at_call 120;refine(ay _ _ _ _ _ H.1).mono ?_;rintro r w1 ⟨rfl,rfl⟩);refine HF.1.mono ?_;rintro r w1 ⟨⟨V,rfl⟩,hw1⟩;obtain⟨A',n',c',j0,j1,j2,g1,g2,-⟩:=(HR.1 _ hw1).cells;have HW:=Aj hw1;clear k0 k1 k2 f1 f2 hw1;go_wp2;go_ret;exact⟨rfl,w1,HW.1,rfl⟩
theorem zY (p at_ aP:Nat) (l tt c1 c2 w) (R:Value→World→Prop) (h:aJ w p l at_ 0)
  (hent:∀args w,(callFunc aP args).run prog w= .ok (.enter aP args) w)
  (hf:Calls prog aP #[.int .i64 (at_:Int),c1,c2] w fun r w'=>∃V,r= .returned (.tuple #[V,.int .i64 tt,.int .i64 0])∧R V w') (hR:∀V w',R V w'→aJ w' p l at_ 0):
  Calls prog 227 #[.pointer (some ⟨p,0,none⟩),.func (.func aP) #[] #[c1,c2]] w fun r w'=>∃V,r= .returned V∧∃w1,R V w1∧w'=w1.setCell ⟨p,1,none⟩ (.int .i64 tt):=by
 obtain⟨A,n,c,k0,k1,k2,f1,f2,hr,h3,h4,h5,h6⟩:=h.cells;have H:=Aj h;have HF:=Aj hf;have HR:=Aj hR;clear h hr hf hR;go_enter func227,ntmps227;go_wp2_with (go_at_call 120;refine(ay _ _ _ _ _ H.1).mono ?_;rintro r w1 ⟨rfl,rfl⟩);refine HF.1.mono ?_;rintro r w1 ⟨V,rfl,hw1⟩;obtain⟨A',n',c',j0,j1,j2,g1,g2,-⟩:=(HR.1 _ _ hw1).cells;have HW:=Aj hw1;clear k0 k1 k2 f1 f2 hw1;go_wp2;go_ret;exact⟨V,rfl,w1,HW.1,rfl⟩
theorem nA (p at_ l e F w) (h:aJ w p l at_ e) (he:e≠0):
  Calls prog 165 #[.pointer (some ⟨p,0,none⟩),F] w fun r w'=>r= .returned (.slice none 0 0)∧w=w':=by
 have H:=Aj h;have xQ:(e==0)=false:=by simpa using he
 have hen:(e !=0)=true:=by simpa using he
 clear h he;go_enter func165,ntmps165;go_wp2_with (go_at_call 120;refine(ay _ _ _ _ _ H.1).mono ?_;rintro r w1 ⟨rfl,rfl⟩);go_ret;exact⟨rfl,rfl⟩
theorem nC (p at_ aP:Nat) (l tt er c1 c2 w) (R:World→Prop) (h:aJ w p l at_ 0) (he:er≠0)
  (hent:∀args w,(callFunc aP args).run prog w= .ok (.enter aP args) w)
  (hf:Calls prog aP #[.int .i64 (at_:Int),c1,c2] w fun r w'=>(∃V,r= .returned (.tuple #[V,.int .i64 tt,.int .i64 er]))∧R w') (hR:∀w',R w'→aJ w' p l at_ 0):
  Calls prog 165 #[.pointer (some ⟨p,0,none⟩),.func (.func aP) #[] #[c1,c2]] w fun r w'=>r= .returned (.slice none 0 0)∧∃w1,R w1∧w'=w1.setCell ⟨p,2,none⟩ (.int .i64 er):=by
 obtain⟨A,n,c,k0,k1,k2,f1,f2,hr,h3,h4,h5,h6⟩:=h.cells;have H:=Aj h;have HF:=Aj hf;have HR:=Aj hR;have xQ:(er==0)=false:=by simpa using he
 have hen:(er !=0)=true:=by simpa using he
 clear h he hr hf hR;go_enter func165,ntmps165;go_wp2_with (go_at_call 120;refine(ay _ _ _ _ _ H.1).mono ?_;rintro r w1 ⟨rfl,rfl⟩);refine HF.1.mono ?_;rintro r w1 ⟨⟨V,rfl⟩,hw1⟩;obtain⟨A',n',c',j0,j1,j2,g1,g2,-⟩:=(HR.1 _ hw1).cells;have HW:=Aj hw1;clear k0 k1 k2 f1 f2 hw1;go_wp2;go_ret;exact⟨rfl,w1,HW.1,rfl⟩
theorem qw (p at_ aP:Nat) (l tt c1 c2 w) (R:Value→World→Prop) (h:aJ w p l at_ 0)
  (hent:∀args w,(callFunc aP args).run prog w= .ok (.enter aP args) w)
  (hf:Calls prog aP #[.int .i64 (at_:Int),c1,c2] w fun r w'=>∃V,r= .returned (.tuple #[V,.int .i64 tt,.int .i64 0])∧R V w') (hR:∀V w',R V w'→aJ w' p l at_ 0):
  Calls prog 165 #[.pointer (some ⟨p,0,none⟩),.func (.func aP) #[] #[c1,c2]] w fun r w'=>∃V,r= .returned V∧∃w1,R V w1∧w'=w1.setCell ⟨p,1,none⟩ (.int .i64 tt):=by
 obtain⟨A,n,c,k0,k1,k2,f1,f2,hr,h3,h4,h5,h6⟩:=h.cells;have H:=Aj h;have HF:=Aj hf;have HR:=Aj hR;clear h hr hf hR;go_enter func165,ntmps165;go_wp2_with (go_at_call 120;refine(ay _ _ _ _ _ H.1).mono ?_;rintro r w1 ⟨rfl,rfl⟩);refine HF.1.mono ?_;rintro r w1 ⟨V,rfl,hw1⟩;obtain⟨A',n',c',j0,j1,j2,g1,g2,-⟩:=(HR.1 _ _ hw1).cells;have HW:=Aj hw1;clear k0 k1 k2 f1 f2 hw1;go_wp2;go_ret;exact⟨V,rfl,w1,HW.1,rfl⟩
theorem sj (p at_ l e F w) (h:aJ w p l at_ e) (he:e≠0):
  Calls prog 169 #[.pointer (some ⟨p,0,none⟩),F] w fun r w'=>r= .returned (.string ⟨#[]⟩)∧w=w':=by
 have H:=Aj h;have xQ:(e==0)=false:=by simpa using he
 have hen:(e !=0)=true:=by simpa using he
 clear h he;go_enter func169,ntmps169;go_wp2_with (go_at_call 120;refine(ay _ _ _ _ _ H.1).mono ?_;rintro r w1 ⟨rfl,rfl⟩);go_ret;exact⟨rfl,rfl⟩
theorem su (p at_ aP:Nat) (l tt er c1 c2 w) (R:World→Prop) (h:aJ w p l at_ 0) (he:er≠0)
  (hent:∀args w,(callFunc aP args).run prog w= .ok (.enter aP args) w)
  (hf:Calls prog aP #[.int .i64 (at_:Int),c1,c2] w fun r w'=>(∃V,r= .returned (.tuple #[V,.int .i64 tt,.int .i64 er]))∧R w') (hR:∀w',R w'→aJ w' p l at_ 0):
  Calls prog 169 #[.pointer (some ⟨p,0,none⟩),.func (.func aP) #[] #[c1,c2]] w fun r w'=>r= .returned (.string ⟨#[]⟩)∧∃w1,R w1∧w'=w1.setCell ⟨p,2,none⟩ (.int .i64 er):=by
 obtain⟨A,n,c,k0,k1,k2,f1,f2,hr,h3,h4,h5,h6⟩:=h.cells;have H:=Aj h;have HF:=Aj hf;have HR:=Aj hR;have xQ:(er==0)=false:=by simpa using he
 have hen:(er !=0)=true:=by simpa using he
 clear h he hr hf hR;go_enter func169,ntmps169;go_wp2_with (go_at_call 120;refine(ay _ _ _ _ _ H.1).mono ?_;rintro r w1 ⟨rfl,rfl⟩);refine HF.1.mono ?_;rintro r w1 ⟨⟨V,rfl⟩,hw1⟩;obtain⟨A',n',c',j0,j1,j2,g1,g2,-⟩:=(HR.1 _ hw1).cells;have HW:=Aj hw1;clear k0 k1 k2 f1 f2 hw1;go_wp2;go_ret;exact⟨rfl,w1,HW.1,rfl⟩
theorem vG (p at_ aP:Nat) (l tt c1 c2 w) (R:Value→World→Prop) (h:aJ w p l at_ 0)
  (hent:∀args w,(callFunc aP args).run prog w= .ok (.enter aP args) w)
  (hf:Calls prog aP #[.int .i64 (at_:Int),c1,c2] w fun r w'=>∃V,r= .returned (.tuple #[V,.int .i64 tt,.int .i64 0])∧R V w') (hR:∀V w',R V w'→aJ w' p l at_ 0):
  Calls prog 169 #[.pointer (some ⟨p,0,none⟩),.func (.func aP) #[] #[c1,c2]] w fun r w'=>∃V,r= .returned V∧∃w1,R V w1∧w'=w1.setCell ⟨p,1,none⟩ (.int .i64 tt):=by
 obtain⟨A,n,c,k0,k1,k2,f1,f2,hr,h3,h4,h5,h6⟩:=h.cells;have H:=Aj h;have HF:=Aj hf;have HR:=Aj hR;clear h hr hf hR;go_enter func169,ntmps169;go_wp2_with (go_at_call 120;refine(ay _ _ _ _ _ H.1).mono ?_;rintro r w1 ⟨rfl,rfl⟩);refine HF.1.mono ?_;rintro r w1 ⟨V,rfl,hw1⟩;obtain⟨A',n',c',j0,j1,j2,g1,g2,-⟩:=(HR.1 _ _ hw1).cells;have HW:=Aj hw1;clear k0 k1 k2 f1 f2 hw1;go_wp2;go_ret;exact⟨V,rfl,w1,HW.1,rfl⟩
end
end
end Go.Proofs.YtjcpmfphnodaaaaGreatDoor
