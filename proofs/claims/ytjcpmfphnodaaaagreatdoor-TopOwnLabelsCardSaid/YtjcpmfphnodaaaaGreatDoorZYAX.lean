/- Part 24. -/
import Derived.Test.YtjcpmfphnodaaaaGreatDoorZYAW
namespace Go.Proofs.YtjcpmfphnodaaaaGreatDoor
set_option maxRecDepth 100000
set_option maxHeartbeats 0
open _root_.Go.Proofs.Tryz
open Go.RowKit Go.Shelf
section
open Go.Maps (Keyed)
theorem V9:Keyed prog 125:=Go.Maps.int_keyed underlying125
def kl (x:Nat):Lit:= .int .u64 (x:Int)
theorem Sb {x y} (h:kl x=kl y):x=y:=by unfold kl at h;injection h with _ h;exact Int.ofNat.inj h
theorem Sc {x:Nat} (h:x<2^64):keyOf prog 125 (.int .u64 (x:Int))=some (kl x):=
 Go.Maps.keyOf_int_mk underlying125 (by
  have h1:IntKind.u64.min=0:=rfl;have h2:IntKind.u64.max=18446744073709551615:=rfl;simp only[Lit.wf,h1,h2,CV,Cg];omega)
theorem mY {H P e} (he:P.underlying e=some .bool) {v} {z:DataW H×List MemPlace} (h:plainElem P e v=some z):∃x,v= .bool x∧z=(.lit (.bool x),[]):=by
 unfold plainElem at h;rw[he]at h;split at h
 ·cases h;exact⟨_,rfl,rfl⟩
 ·rename_i h1;cases h1
 ·rename_i h1;cases h1
 ·cases h
def Km (w:World) (b n:Nat) (D:DataW Unit) (ks:List Nat):Prop:=
 w.ownsMap prog 125 (plainElem prog 4) b n D∧∃E:List (Lit×DataW Unit),D= .map E∧(E.map (·.1)).Perm (ks.map kl)∧ks.Nodup
theorem Km.made (w:World):Km (w.alloc (.map #[] 0)) w.heap.size 0 (.map []) []:=⟨World.ownsMap_made _ _ _ _,[],rfl,List.Perm.nil,List.nodup_nil⟩
theorem Km.size {w b n D ks} (h:Km w b n D ks):Go.Maps.size D=ks.length:=by
 obtain⟨_,E,rfl,hp,_⟩:=h;have:=hp.length_eq;simpa[Go.Maps.size]using this
theorem Km.kept {w w' b n D ks row} (h:Km w b n D ks) (hg:w.grownBy w' row) (hne:some b≠row):Km w' b n D ks:=⟨h.1.kept hg hne,h.2⟩
theorem Km.put {w w' b n D d ks} (h:Km w b n D ks) (x) (ho:w'.ownsMap prog 125 (plainElem prog 4) b (n+1) (D.put (kl x) d)):
  Km w' b (n+1) (D.put (kl x) d) (x::ks.filter (· ≠x)):=by
 obtain⟨_,E,rfl,hp,hn⟩:=h;refine⟨ho,ChangeMaps.putKey (kl x) d E,rfl,?_,?_⟩
 ·unfold ChangeMaps.putKey;refine((WideShapes.insert_perm (kl x,d) _).map (·.1)).trans ?_;rw[AA,AA];refine List.Perm.cons _ ?_;have e1:(E.filter (ChangeMaps.notKey (kl x))).map (·.1)=(E.map (·.1)).filter (fun l=>!l.sameKey (kl x)):=by
   rw[List.filter_map];rfl
  have e2:(ks.filter (· ≠x)).map kl=(ks.map kl).filter (fun l=>!l.sameKey (kl x)):=by
   rw[List.filter_map]
   congr 1
   apply List.filter_congr;intro z _;simp only[Function.comp,kl,Lit.sameKey];by_cases hz:z=x
   ·subst hz;simp
   ·have:¬(z:Int)=(x:Int):=by omega
    simp[hz,this]
  rw[e1,e2];exact hp.filter _
 ·refine List.nodup_cons.2 ⟨sm,hn.filter _⟩
theorem Km.has {w b n D ks} (h:Km w b n D ks) (l):Go.Maps.has D l=true↔∃x∈ks,kl x=l:=by
 obtain⟨_,E,rfl,hp,_⟩:=h;rw[Go.Maps.has_eq,Dc];constructor
 ·rintro⟨p,hpE,hs⟩;have e:=WideAt.sameKey_eq hs;have hm:p.1∈ks.map kl:=hp.mem_iff.1 (bQ.2 ⟨p,hpE,rfl⟩);obtain⟨x,hx,hk⟩:=bQ.1 hm;exact⟨x,hx,hk.trans e⟩
 ·rintro⟨x,hx,rfl⟩;have hm:kl x∈E.map (·.1):=hp.mem_iff.2 (bQ.2 ⟨x,hx,rfl⟩);obtain⟨p,hpE,he⟩:=bQ.1 hm;exact⟨p,hpE,by rw[he];exact WideAt.sameKey_self (by unfold kl;trivial)⟩
def JG (D:DataW Unit) (acc:List Nat) (l:Lit):Bool:=Go.Maps.has D l&&!(acc.any fun x=>(kl x).sameKey l)
theorem JG.nil (D):JG D []=Go.Maps.has D:=by funext l;simp[JG]
theorem zu (a b:Lit):a.sameKey b=b.sameKey a:=by
 cases a<;>cases b<;>simp[Lit.sameKey,Bool.beq_comm,eq_comm]
theorem JG.snoc (D acc x):JG D (acc++[x])=fun z=>JG D acc z&&!z.sameKey (kl x):=by
 funext z
 simp only[JG,List.any_append,List.any_cons,List.any_nil,Bool.or_false,Bool.not_or];rw[zu (kl x) z,Bool.and_assoc]
theorem acs {l m} (h1:l.Pairwise (· ≤ ·)) (h2:l.Nodup) (h3:∀z,z∈l↔z∈m):l=Di.eO m:=by
 refine Di.Qq ?_ (Di.pg m) (fun z=>(h3 z).trans (Di.fe m z).symm);exact(h1.and h2).imp fun⟨a,b⟩=>om
theorem JH (n):Go.Sort.bitsLen n=Di.bl n:=rfl
theorem p9 (k:Nat) (hk:k<4611686018427387904) (w):
  Calls prog 262 #[.int .i64 (k:Int)] w fun e w'=>e= .returned (.int .i64 ((Di.mO k:Nat):Int))∧w'=w:=by
 unfold Di.mO;by_cases h0:k<1
 ·obtain rfl:k=0:=by omega
  go_enter func262,ntmps262;go_wp2;go_ret;exact⟨rfl,rfl⟩
 ·have h0':¬(k:Int)<1:=by omega
  have hb:=Aj (RS (k-1) om w);rw[show((k-1:Nat):Int)=(k:Int)-1 from om]at hb;rw[JH]at hb;go_enter func262,ntmps262;go_wp2_with (go_at_call 185;refine hb.1.mono ?_;rintro e w1 ⟨rfl,rfl⟩);go_ret;exact⟨rfl,rfl⟩
end
section
open Go.Maps (Keyed)
theorem mo {w:World} {base n c sz A xs e} (h:w.ownsRow base e sz (.slice A n c) n xs) {g} (hg:ab A=some g):∃cs fr,w.heap[g]? =some (.cells cs e fr):=by
 rcases h.2 with⟨hv,_⟩|⟨g2,cap,cur,hv,_,hb,_⟩
 ·injection hv with hv1;rw[hv1]at hg;cases hg
 ·injection hv with hv1
  rw[hv1]at hg;obtain rfl:g2=g:=by simpa[ab]using hg
  exact⟨_,_,hb⟩
theorem Gi {w:World} {base n c sz b m A xs e k P} {R:Value→Option (DataW Unit×List MemPlace)} {D} (h:w.ownsRow base e sz (.slice A n c) n xs) (hm:w.ownsMap P k R b m D):some b≠ab A:=fun e=>by
 obtain⟨cs,fr,hg⟩:=mo h e.symm;obtain⟨es,cl,hb,_⟩:=hm;rw[hg]at hb;cases hb
theorem jW {w:World} {base n c sz b r m cnt A xs e k P} {R:Value→Option (DataW Unit×List MemPlace)} {D left} (h:w.ownsRow base e sz (.slice A n c) n xs) (hm:w.ranges P k R b r m D left cnt):some r≠ab A:=fun e=>by
 obtain⟨cs,fr,hg⟩:=mo h e.symm;obtain⟨es,cl,si,se,c0,h1,h2,h3,h4,h5,_⟩:=hm;rw[hg]at h5;cases h5
structure ZC (w:World) (l:List Nat) (D:DataW Unit) (r n:Nat) (A:Option Addr) (c:Nat) (W:World) (acc:List Nat) (cnt:Nat):Prop where
 rg:W.ranges prog 125 (plainElem prog 4) w.heap.size r n D (JG D acc) cnt
 own:aI W w.heap.size A acc.length c acc
 nd:acc.Nodup
 sub:∀z∈acc,z∈l
 aX:Below w.heap.size w W
theorem iJ:∀{l m:List Nat},l.Nodup→(∀x∈l,x∈m)→l.length≤m.length
 |[],m,_,_=>bE _
 |x::l,m,h,hs=>by
  obtain⟨h1,h2⟩:=List.nodup_cons.1 h;have hx:=hs x jO;have:=iJ (m:=m.erase x) h2 (fun y hy=>(List.mem_erase_of_ne (fun e=>h1 (by rw[←e];exact hy))).2 (hs y (kF _ hy)));rw[List.length_erase_of_mem hx]at this;have:=List.length_pos_of_mem hx;simp only[Lc];omega
theorem Sg {w base n c A xs} (h:aI w base A n c xs) (hA:ab A≠none):∃g,A=some ⟨g,0,none⟩:=by
 rcases h.2 with⟨hv,_⟩|⟨g2,cap,cur,hv,_⟩
 ·injection hv with hv1;rw[hv1]at hA;exact absurd rfl hA
 ·injection hv with hv1;exact⟨g2,hv1⟩
theorem ZC.done {w W l D r n c cnt k m A acc ks wm} (I:ZC w l D r n A c W acc cnt) (hl:∀z,JG D acc z=false) (hm:Km wm k m D ks) (hk:∀z,z∈ks↔z∈l):∀z,z∈acc↔z∈l:=fun z=>by
 refine⟨I.sub z,fun hz=>?_⟩;have h1:=hl (kl z);have h2:Go.Maps.has D (kl z)=true:=(hm.has _).2 ⟨z,(hk z).2 hz,rfl⟩;unfold JG at h1;rw[h2,Bool.true_and,Bool.not_eq_false']at h1;obtain⟨x,hx,he⟩:=Dc.1 h1;rw[←Sb (WideAt.sameKey_eq he)];exact hx
theorem ZC.next {w W w1 w5 l D r n c cnt k m x cnt1 c4 A A4 acc ks wm} (I:ZC w l D r n A c W acc cnt) (hm:Km wm k m D ks) (hk:∀z,z∈ks↔z∈l) (hwr:w.heap.size≤r)
  (hlx:JG D acc (kl x)=true) (hrg:w1.ranges prog 125 (plainElem prog 4) w.heap.size r n D (fun z=>JG D acc z&&!z.sameKey (kl x)) cnt1) (hg1:W.grownBy w1 (some r)) (o)
  (h5:aI w5 w.heap.size A4 (acc.length+1) c4 (acc++[x])) (hg5:(w1.alloc o).grownBy w5 (ab A)):ZC w l D r n A4 c4 w5 (acc++[x]) cnt1:=by
 have Wh:=hlx;unfold JG at Wh;rw[CV,Bool.not_eq_true']at Wh;obtain⟨y,hy,he⟩:=(hm.has _).1 Wh.1;have hyx:=Sb he;subst hyx;have hnx:y∉acc:=fun h=>by
  have:=List.any_eq_false.1 Wh.2 y h;exact this (WideAt.sameKey_self (by unfold kl;trivial))
 have hown1:aI w1 w.heap.size A acc.length c acc:=ag I.own hg1 (.inr (fun e=>jW I.own I.rg e.symm));have hra:=hrg.alloc o;have hb:=I.aX;have hz:=hb.size;have hlA:∀g,ab A=some g→w.heap.size≤g:=fun g e=>(ae I.own g e).1
 refine⟨?_,by simpa using h5,?_,?_,?_⟩
 ·rw[JG.snoc];exact hra.kept hg5 (fun e=>Gi hown1 hrg.owns e) (fun e=>jW hown1 hrg e)
 ·exact List.nodup_append.2 ⟨I.nd,sm,fun a ha b hb'=>by obtain rfl:=gz.1 hb';exact fun e=>hnx (e▸ha)⟩
 ·intro z hz2;rcases ja.1 hz2 with h|h
  ·exact I.sub z h
  ·rw[gz.1 h];exact(hk y).1 hy
 ·have b1:=hb.grown hg1 hz (fun g e=>by cases e;exact hwr);exact(b1.alloc b1.size o).grown hg5 (by simp;have:=b1.size;omega) hlA
theorem Gj (A n c B l w) (hr:kD w B A n c l) (hB:B≤w.heap.size) (hx:∀x∈l,x<2^64) (hn:n≤1000000):
  Calls prog 261 #[.slice A n c] w fun e w'=>∃A2 c2,e= .returned (.slice A2 (Di.eO l).length c2)∧aI w' w.heap.size A2 (Di.eO l).length c2 (Di.eO l)∧Below w.heap.size w w':=by
 have hln:=Aj hr.len;have hlc:=hr.1;have hcm:=hr.2.1;unfold maxLen at hcm;have R0:=Aj hr;have HX:=Aj hx;clear hr hx;have hmm:= @run_makeMap prog;go_enter func261,ntmps261;go_wp2;go_loopw [11] (fun i wr=>∃(k:Nat) (D:DataW Unit) (ks:List Nat),k≤n∧i= .int .i64 (k:Int)∧Km wr w.heap.size k D ks∧Kept (∀z,z∈ks↔z∈l.take k)∧Below w.heap.size w wr) (fun i _=>n-(intOf i).toNat)
 case atStart=>exact⟨0,.map [],[],om,rfl,Km.made w,⟨sm⟩,(Ae _ _).alloc Ai _⟩
 case round=>
  obtain⟨k,D,ks,hk,rfl,hm,HK,hb⟩:=hrel;by_cases hlt:k<n
  ·have hlt':(k:Int)< (n:Int):=by omega
   have hkl:k<l.length:=by have:=hln.1;omega
   obtain⟨bb,off,rfl,jT,hc0⟩:=((R0.1.below (hb.mono hB))).at_ hkl;have hxk:=HX.1 _ (gP hkl);obtain⟨x,hq⟩:∃x,x=l[k]:=⟨_,rfl⟩
   rw[←hq]at hc0 hxk;have HQ:=Aj hq;have MP:=Aj hm;have HB:=Aj hb;have HKY:=Aj (Sc hxk);have hz:=hb.size;clear hm hb hq;go_wp2_with (at_mapUpdate;refine wpList_mapUpdate_own _ rfl _ _ _ 386 rfl 125 4 V9 underlying386 _ w.heap.size k _ rfl MP.1.1 (by unfold maxLen;omega) _ _ _ rfl rfl HKY.1 _ [] (plainElem_bool underlying4 true) ?_;intro w1 hown1 hgrow1;have M1:=Aj (MP.1.put x hown1);have B1:=Aj (HB.1.grown hgrow1 hz (fun g e=>by cases e;exact Nr _));clear hown1 hgrow1);go_roundw
   case rel=>
    refine⟨k+1,_,_,om,by go_num,M1.1,⟨fun z=>?_⟩,B1.1⟩;rw[Ts hkl,←HQ.1,ja,dV,Ca,HK.1 z];by_cases hzx:z=x<;>simp[hzx]
   case measure=>simp[intOf];omega
  ·obtain rfl:k=n:=by omega
   have hall:∀z,z∈ks↔z∈l:=fun z=>by rw[HK.1 z,iL (by have:=hln.1;omega)]
   have hsl:ks.length≤1000000:=Lt (iJ hm.2.choose_spec.2.2 (fun x h=>(hall x).1 h)) (by have:=hln.1;omega);have HA:=Aj hall;have MP:=Aj hm;have HB:=Aj hb;have hsz:=Aj hm.size;have hz:=hb.size;clear hm hb HK;have hlen:=MP.1.1.len underlying386 3;rw[hsz.1]at hlen;have akJ:(ks.length:Int)≤1000000:=om;obtain⟨i0,hi0,hz0,hz1,hz2⟩:=AX XD;obtain⟨wm,hmk,hown0,Wj⟩:=run_make_own wr w.heap.size 284 125 i0 _ 1 underlying284 hi0 hz0 hz1 .i64 .i64 ks.length (by rw[hz2];omega) (by unfold maxLen;omega) hz;have MPm:=Aj (MP.1.kept Wj sm);have HBm:=Aj (HB.1.grown Wj hz (fun g e=>by cases e));have HO0:=Aj hown0;have hzm:=Wj.size;clear hi0 hz0 hz1 hz2 hown0 Wj;go_wp2_with (at_range;refine wpList_range_own _ rfl _ 386 rfl 125 4 V9 underlying386 _ w.heap.size k _ rfl MPm.1.1 ?_;intro w0 hrg0 hg0 hs0;have RG0:=Aj hrg0;have G0:=Aj hg0;have hzz:=Nat.le_of_eq hs0.symm;clear hrg0 hg0 hs0);obtain⟨r,hrr⟩:∃r,r=wm.heap.size:=⟨_,rfl⟩
   rw[←hrr]at RG0⊢;have hrm:Kept (r=wm.heap.size):=⟨hrr⟩
   have hwr:w.heap.size≤r:=om;clear hrr hmk hlen MP HB;have I0:ZC w l D r k (some ⟨wr.heap.size,0,none⟩) ks.length w0 [] (Go.Maps.size D):=
    ⟨by rw[JG.nil];exact RG0.1,ag HO0.1 G0.1 (.inr (by simp[ab])),List.nodup_nil,sm,HBm.1.grown G0.1 om (fun g e=>by cases e)⟩
   go_frame;go_loopw [6] (fun v W=>∃(A2:Option Addr) (c2:Nat) (acc:List Nat) (cnt:Nat),v= .slice A2 acc.length c2∧ZC w l D r k A2 c2 W acc cnt∧ab A2≠none) (fun _ W=>W.rangeLeft w.heap.size r)
   case atStart=>exact⟨_,_,[],_,rfl,I0,by simp[ab]⟩
   case round=>
    clear RG0 G0 HBm HO0 I0;obtain⟨A2,c2,acc,cnt,rfl,I,hA2⟩:=hrel;have HI:=Aj I;have vk:=Aj I.rg.left_eq;clear I;go_wp2_with (at_next;refine wpList_next_ranges (α:=Nat) (β:=Bool) _ rfl _ rfl 125 V9 _ (fun x=> .int .u64 (x:Int)) Value.bool ?_ ?_ w.heap.size r k _ _ _ rfl HI.1.rg ?_ ?_)
    ·intro key l0 h;obtain⟨z,rfl,_,hw⟩:=Go.Maps.keyOf_int_inv underlying125 h;have h1:IntKind.u64.min=0:=rfl;have h0:0≤z:=by
      simp only[Lit.wf,h1,CV,Cg]at hw;exact hw.1
     exact⟨z.toNat,by rw[Int.toNat_of_nonneg h0]⟩
    ·intro v y h;obtain⟨z,rfl,_⟩:=mY underlying4 h;exact⟨z,rfl⟩
    ·intro hc0 hl0;obtain⟨g,rfl⟩:=Sg HI.1.own hA2;have hmem:=HI.1.done hl0 MPm.1 HA.1;have hal:acc.length≤1000000:=Lt (iJ HI.1.nd HI.1.sub) (by have:=hln.1;omega);have SO:=Aj (NI w.heap.size g acc.length c2 acc wr HI.1.own om);have HM:=Aj hmem;have HNd:=Aj HI.1.nd;have HB2:=Aj HI.1.aX;have hgl:=(ae HI.1.own g rfl).1;clear hmem hall;go_wp2_with (go_at_call 282;refine SO.1.mono ?_;rintro e w9 ⟨rfl,l',hp,hu,ho,hg⟩;have HP:=Aj hp;have HU:=Aj hu;have HO9:=Aj ho;have HG9:=Aj hg;clear hp hu ho hg);go_ret;have el:l'=Di.eO l:=acs HU.1 (HP.1.nodup_iff.2 HNd.1) (fun z=>HP.1.mem_iff.trans (HM.1 z));have ell:acc.length=(Di.eO l).length:=by rw[←el];exact HP.1.length_eq.symm
     have ho:=HO9.1;rw[el,ell]at ho;exact⟨_,c2,by rw[ell];rfl,ho,HB2.1.grown HG9.1 HB2.1.size (fun j e=>by cases e;exact hgl)⟩
    ·intro x;refine⟨?_,?_⟩
     all_goals
      intro l0 a0 b0 w1 cnt1 hkey hlx hRv hat hrg1 hlt1 hg1 hs1 hen;have hl0:l0=kl x:=by
       obtain⟨z,e,rfl,_⟩:=Go.Maps.keyOf_int_inv underlying125 hkey
       injection e with _ e
       rw[←e];rfl
      subst hl0;have NX:=Aj (fun(o:Obj) (w5:World) (A4:Option Addr) (c4:Nat)=>HI.1.next (w5:=w5) (A4:=A4) (c4:=c4) MPm.1 HA.1 hwr hlx hrg1 hg1 o);have O1:=Aj (show aI w1 w.heap.size A2 acc.length c2 acc from ag HI.1.own hg1 (.inr (fun e=>jW HI.1.own HI.1.rg e.symm)));have hal:acc.length≤1000000:=Lt (iJ HI.1.nd HI.1.sub) (by have:=hln.1;omega);have hz1:w.heap.size≤w1.heap.size:=by rw[hs1];exact HI.1.aX.size
      have hzb:w.heap.size≤(w1.alloc (.cells #[.int .u64 (x:Int)] 125)).heap.size:=by simp;omega
      have hmr:=vk.1;clear hkey hlx hRv hat hrg1 hg1 hs1 hall;go_wp2_with (at_builtin;refine dF rfl (.tmp 27) (.tmp 29) rfl w.heap.size A2 acc.length c2 _ rfl (Oa O1.1 _) _ _ _ _ _ rfl (kD.one w1 x) om hzb ?_;intro A4 c4 w5 av af cu;have O4:=Aj av;have G4:=Aj af;have AT:=Aj cu;clear av af cu);have IX:=NX.1 _ _ _ _ O4.1 G4.1;go_roundw
      case rel=>exact⟨A4,c4,acc++[x],cnt1,sm,IX,by rcases AT.1 with h|h<;>rw[h]<;>simp[hA2]⟩
      case measure=>rw[IX.rg.left_eq,hmr];exact hlt1
end
theorem Di.Si {d} (h:Di.Up d) {i j} (hi:i<d.length) (hj:j<d.length):d[i]<d[j]↔i<j:=by
 have P:=Cm.1 h;constructor
 ·intro hd;rcases Ea i j with q|q|q
  ·exact q
  ·subst q;omega
  ·have:=P _ _ hj hi q;omega
 ·intro q;exact P _ _ hi hj q
theorem Gm (A n c B q x d w) (hr:kD w B A n c d) (_hB:B≤w.heap.size) (hq:q<d.length) (hx:x=d[q]) (hu:Di.Up d) (hn:n≤1000000):
  Calls prog 263 #[.slice A n c,.int .u64 (x:Int)] w fun e w'=>e= .returned (.tuple #[.int .i64 (q:Int),.bool true])∧∃m,w'=w.drewN m:=by
 have hln:=Aj hr.len;have hlc:=hr.1;have hcm:=hr.2.1;unfold maxLen at hcm;have hqn:q<n:=by rw[hr.len];exact hq
 obtain⟨bb,off,rfl,jT,-⟩:=hr.at_ hq;have hcell:∀t,t<n→∃v,w.cell? ⟨bb,off+t,none⟩=some (.int .u64 (v:Nat))∧(v<x↔t<q)∧(t=q→v=x):=fun t ht=>by
  have htl:t<d.length:=by have:=hln.1;omega
  obtain⟨b2,o2,e2,_,h2⟩:=hr.at_ htl;simp only[gK,Ce]at e2;obtain⟨rfl,rfl,-⟩:=e2;exact⟨d[t],h2,by rw[hx];exact Di.Si hu htl hq,fun e=>by subst e;exact hx.symm⟩
 have HC:=Aj hcell;clear hr hcell hx hq;go_enter func263,ntmps263;go_wp2;go_loopw [7,8] (fun vi vj wr=>∃i j m:Nat,vi= .int .i64 (i:Int)∧vj= .int .i64 (j:Int)∧i≤q∧q≤j∧j≤n∧i≤j∧wr=w.drewN m) (fun vi vj _=>(intOf vj-intOf vi).toNat)
 case atStart=>exact⟨0,n,0,rfl,rfl,om,om,Nr _,om,rfl⟩
 case round=>
  obtain⟨i,j,m,rfl,rfl,hi,hj,hjn,hij,rfl⟩:=hrel;by_cases hlt:i<j
  ·have hlt':(i:Int)< (j:Int):=by omega
   obtain⟨h,hh⟩:∃h,h=(i+j)/2:=⟨_,rfl⟩
   have hh1:((i:Int)+(j:Int))/2=(h:Int):=om;have hhn:h<n:=om;have hh2:i≤h∧h<j:=om;obtain⟨v,hc,hv,-⟩:=HC.1 h hhn;have hcd:(w.drewN m).cell? ⟨bb,off+h,none⟩=some (.int .u64 (v:Nat)):=hc;clear hh hc;by_cases hvx:v<x
   ·have hl:Sort.ltInt (v:Int) (x:Int)=true:=by simp[Sort.ltInt];omega
    have hhq:=hv.1 hvx;have L:=Aj (aD (v:Int) (x:Int) (w.drewN m));rw[hl]at L;go_wp2_with (go_at_call 283;refine L.1.mono ?_;rintro e w1 ⟨rfl,rfl⟩);go_roundw
    case rel=>exact⟨h+1,j,m,by go_num,rfl,om,hj,hjn,om,rfl⟩
    case measure=>simp[intOf];omega
   ·have hl:Sort.ltInt (v:Int) (x:Int)=false:=by simp[Sort.ltInt];omega
    have hhq:¬h<q:=fun e=>hvx (hv.2 e)
    have L:=Aj (aD (v:Int) (x:Int) (w.drewN m));rw[hl]at L;go_wp2_with (go_at_call 283;refine L.1.mono ?_;rintro e w1 ⟨rfl,rfl⟩);go_roundw
    case rel=>exact⟨i,h,m,rfl,rfl,hi,om,om,om,rfl⟩
    case measure=>simp[intOf];omega
  ·obtain rfl:i=q:=by omega
   have hji:j=i:=om;subst hji;obtain⟨v,hc,-,hv⟩:=HC.1 _ hqn;obtain rfl:=hv rfl;have hcd:(w.drewN m).cell? ⟨bb,off+j,none⟩=some (.int .u64 (v:Nat)):=hc;have akP:(j:Int)< (n:Int):=om;clear hc hv;go_wp2_with fail;go_ret2;exact⟨rfl,m,rfl⟩
theorem w64 {z} (h0:0≤z) (h1:z≤10000000000):wrap64 z=z:=by unfold wrap64;omega
theorem NK {z} (h0:0≤z) (h1:z≤10000000000):IntKind.i64.wrap z=z:=by
 have h:=w64 h0 h1;unfold wrap64 at h;rw[Bo];exact h
def Di.JI (l:List Nat):Int:=if 128< (Di.eO l).length then-1 else if(Di.eO l).length=0 then 0 else 7+(Di.eO l).length*64+l.length*Di.mO (Di.eO l).length
theorem Di.JJ {k} (h:k≤128):Di.mO k≤7:=by
 have:=(Go.Sort.bitsLen_le_iff (k-1) 7).2 om;exact this
theorem NL (A n c B l w) (hr:kD w B A n c l) (hB:B≤w.heap.size) (hx:∀x∈l,x<2^64) (hn:n≤1000000):
  Calls prog 221 #[.slice A n c] w fun e w'=>e= .returned (.int .i64 (Di.JI l))∧Below w.heap.size w w':=by
 have D0:=Aj (Gj A n c B l w hr hB hx hn);have hln:=Aj hr.len;have hkl:(Di.eO l).length≤1000000:=Lt (iJ ((Di.pg l).imp fun h=>Nat.ne_of_lt h) (fun x h=>(Di.fe l x).1 h)) (by have:=hln.1;omega);unfold Di.JI;generalize Di.eO l=d at*;obtain⟨k,hk⟩:∃k,d.length=k:=⟨_,rfl⟩
 rw[hk]at D0 hkl⊢;have hnl:Kept ((l.length:Int)=(n:Int)):=⟨by have:=hln.1;omega⟩
 rw[hnl.1];clear hr hk hx;have vM:k<4611686018427387904:=om;have W0:=Aj (fun w=>p9 k vM w);have hw7:k≤128→Di.mO k≤7:=Di.JJ;generalize Di.mO k=v at*;by_cases h1:128<k
 ·rw[Ps0 h1];have h1':(128:Int)< (k:Int):=om;go_enter func221,ntmps221;go_wp2_with (go_at_call 261;refine D0.1.mono ?_;rintro e w1 ⟨A2,c2,rfl,ho,hb⟩;have B1:=Aj hb;clear ho hb);go_ret;exact⟨rfl,B1.1⟩
 ·have h1':¬(128:Int)< (k:Int):=by omega
  rw[Ng h1];by_cases h2:k=0
  ·subst h2;rw[Ps0 rfl];go_enter func221,ntmps221;go_wp2_with (go_at_call 261;refine D0.1.mono ?_;rintro e w1 ⟨A2,c2,rfl,ho,hb⟩;have B1:=Aj hb;clear ho hb);go_ret;exact⟨rfl,B1.1⟩
  ·rw[Ng h2];have h2':¬(k:Int)=0:=om;have hv:=hw7 om;have hnv:n*v≤7000000:=Nat.mul_le_mul hn hv;have acu:(n:Int)*(v:Int)=((n*v:Nat):Int):=by rw[Int.natCast_mul]
   have e0:0≤(n:Int)*(v:Int)∧(n:Int)*(v:Int)≤7000000:=by rw[acu];omega
   have e1:IntKind.i64.wrap ((k:Int)*64)=(k:Int)*64:=NK om om;have e2:IntKind.i64.wrap ((n:Int)*(v:Int))=(n:Int)*(v:Int):=NK e0.1 om;have e3:wrap64 ((n:Int)*(v:Int))=(n:Int)*(v:Int):=w64 e0.1 om;have e4:wrap64 (7+(k:Int)*64+(n:Int)*(v:Int))=7+(k:Int)*64+(n:Int)*(v:Int):=w64 om om;have e5:IntKind.i64.wrap (7+(k:Int)*64+(n:Int)*(v:Int))=7+(k:Int)*64+(n:Int)*(v:Int):=NK om om;clear acu;go_enter func221,ntmps221;go_wp2_with (first
    |(go_at_call 262;refine(W0.1 _).mono ?_;rintro e w1 ⟨rfl,rfl⟩)
    |(go_at_call 261;refine D0.1.mono ?_;rintro e w1 ⟨A2,c2,rfl,ho,hb⟩;have B1:=Aj hb;clear ho hb))
   go_ret;exact⟨rfl,B1.1⟩
def Di.Gn (r:List Bool):List Nat×List Bool×Int:=if(Tm.rd 7 r).2.2≠0 then([],(Tm.rd 7 r).2)else Di.gd ((Tm.rd 7 r).1+1) [] (Tm.rd 7 r).2.1
structure GdI (w:World) (p K:Nat) (Q:List Nat×List Bool×Int) (i:Nat) (A:Option Addr) (c:Nat) (W:World) (acc:List Nat) (r:List Bool):Prop where
 gd:Di.gd (K-i) acc r=Q
 len:acc.length=i
 own:aI W w.heap.size A i c acc
 br:Br W p r
 grown:w.grownBy W (some p)
theorem Di.Wl (acc r):Di.gd 0 acc r=(acc,r,0):=by simp[Di.gd]
theorem Di.Wm {m} (hm:0<m) (acc r):Di.gd m acc r=if(Tm.rd 64 r).2.2≠0 then([],(Tm.rd 64 r).2)else if∃y∈acc.getLast?,(Tm.rd 64 r).1≤y then([],(Tm.rd 64 r).2.1,8)else Di.gd (m-1) (acc++[(Tm.rd 64 r).1]) (Tm.rd 64 r).2.1:=by
 obtain⟨k,rfl⟩:∃k,m=k+1:=⟨m-1,om⟩
 rw[Di.gd];rfl
theorem NN (p r w) (h:Br w p r):
  Calls prog 264 #[.pointer (some ⟨p,0,none⟩)] w fun e w'=>∃A2 n2 c2,e= .returned (.tuple #[.slice A2 n2 c2,.int .i64 (Di.Gn r).2.2])∧aI w' w.heap.size A2 n2 c2 (Di.Gn r).1∧Br w' p (Di.Gn r).2.1∧w.grownBy w' (some p):=by
 have hp:=h.lt;have RB:=Aj (dG p 7 r w h om);have hlt:=Tm.jF 7 r;have mH:=Tm.p8 7 r;obtain⟨X,hX⟩:∃X,X=Di.Gn r:=⟨_,rfl⟩
 rw[←hX];unfold Di.Gn at hX;generalize Tm.rd 7 r=Y at*;obtain⟨k,r1,e1⟩:=Y;simp only[]at RB hlt mH hX;clear h;rcases mH with rfl|rfl
 ·rw[Ng sm]at hX;have HX:=Aj hX.symm;obtain⟨K,hK⟩:∃K,K=k+1:=⟨_,rfl⟩
  rw[←hK]at HX;have hki:(k:Int)+1=(K:Int):=om;have hks:IntKind.i64.wrap (k:Int)=(k:Int):=NK om om;have hK1:K≤128:=om;clear hX hK;go_enter func264,ntmps264;go_wp2_with (go_at_call 213;refine RB.1.mono ?_;rintro e w1 ⟨rfl,hb,hg⟩;have B1:=Aj hb;have G1:=Aj hg;clear hb hg);go_loopw [6,21] (fun v iv wr=>∃(i:Nat) (A2:Option Addr) (c2:Nat) (acc:List Nat) (r2:List Bool),v= .slice A2 i c2∧iv= .int .i64 (i:Int)∧i≤K∧GdI w p K X i A2 c2 wr acc r2) (fun _ iv _=>K-(intOf iv).toNat)
  case atStart=>exact⟨0,none,0,[],r1,rfl,rfl,bE _,HX.1,rfl,⟨rfl,.inl ⟨rfl,rfl⟩⟩,B1.1,G1.1⟩
  case round=>
   clear B1 G1 HX;obtain⟨i,A2,c2,acc,r2,rfl,rfl,hiK,I⟩:=hrel;have HI:=Aj I;clear I;by_cases hi:i<K
   ·have hi':(i:Int)< (K:Int):=by omega
    have RB2:=Aj (dG p 64 r2 wr HI.1.br om);have hst:=Aj (Di.Wm (m:=K-i) om acc r2);rw[HI.1.gd]at hst;have mH:=Tm.p8 64 r2;have hlt2:=Tm.jF 64 r2;generalize Tm.rd 64 r2=Y at*;obtain⟨x,r3,e3⟩:=Y;simp only[]at RB2 hst mH hlt2;have O1:=Aj (show∀w2,wr.grownBy w2 (some p)→aI w2 w.heap.size A2 i c2 acc from fun w2 hg=>lg HI.1.own hg hp);rcases mH with rfl|rfl
    ·rw[Ng sm]at hst;have hwr:=HI.1.grown.size;by_cases hi0:i=0
     ·subst hi0;have ha:acc=[]:=oG HI.1.len;subst ha;rw[Ng sm]at hst;go_wp2_with (first
       |(at_builtin;refine dF rfl (.tmp 45) (.tmp 47) rfl w.heap.size A2 0 c2 _ rfl (Oa O2.1 _) _ _ _ _ _ rfl (kD.one w2 x) om (by have:=G2.1.size;simp;omega) ?_;intro A4 c4 w5 av af cu;have O4:=Aj av;have B4:=Aj ((B2.1.grown (Ga w2 _ none) (fun g e=>by cases e)).grown af (fun g e=>by have:=(ae O2.1 g e).1;omega));have G4:=Aj ((G2.1.andThen (Ga w2 _ none) (fun j hj=>by cases hj)).andThen af (fun j hj=> .inl (ae O2.1 j hj).1));clear av af cu)
       |(go_at_call 213;refine RB2.1.mono ?_;rintro e w2 ⟨rfl,hb,hg⟩;have B2:=Aj hb;have G2:=Aj (HI.1.grown.trans hg);have O2:=Aj (O1.1 w2 hg);clear hb hg))
      go_roundw
      case rel=>
       refine⟨1,A4,c4,[x],r3,rfl,by go_num,om,?_,rfl,O4.1,B4.1,G4.1⟩;rw[show K-1=K-0-1 from om];exact hst.1.symm
      case measure=>simp[intOf];omega
     ·have hl:=HI.1.len;have hil:i-1<acc.length:=om;have hlast:acc.getLast? =some acc[i-1]:=by
       rw[List.getLast?_eq_getElem?,hl];exact kK hil
      rw[hlast]at hst;obtain⟨g,rfl,hg1,hg2⟩:=HI.1.own.pos om;have CE:=Aj (fun(w2:World) (hg:wr.grownBy w2 (some p))=>((O1.1 w2 hg).at_ hil).1);have hx0:(0:Int)< (i:Int):=om;have hcap:=HI.1.own.rd.1;generalize acc[i-1]=y at*;clear hlast hil;by_cases hxy:x≤y
      ·rw[Ps0 ⟨y,rfl,hxy⟩]at hst;have hxy':(x:Int)≤(y:Int):=om;go_wp2_with (go_at_call 213;refine RB2.1.mono ?_;rintro e w2 ⟨rfl,hb,hg⟩;have B2:=Aj hb;have G2:=Aj (HI.1.grown.trans hg);have k0:=CE.1 w2 hg;clear hb hg);go_ret2;rw[hst.1];exact⟨none,0,0,rfl,⟨rfl,.inl ⟨rfl,rfl⟩⟩,B2.1,G2.1⟩
      ·rw[Ng (by rintro⟨z,hz,hxz⟩;cases hz;exact hxy hxz)]at hst;have hxy':¬(x:Int)≤(y:Int):=om;go_wp2_with (first
        |(at_builtin;refine dF rfl (.tmp 45) (.tmp 47) rfl w.heap.size (some ⟨g,0,none⟩) i c2 _ rfl (Oa O2.1 _) _ _ _ _ _ rfl (kD.one w2 x) om (by have:=G2.1.size;simp;omega) ?_;intro A4 c4 w5 av af cu;have O4:=Aj av;have B4:=Aj ((B2.1.grown (Ga w2 _ none) (fun g e=>by cases e)).grown af (fun g e=>by have:=(ae O2.1 g e).1;omega));have G4:=Aj ((G2.1.andThen (Ga w2 _ none) (fun j hj=>by cases hj)).andThen af (fun j hj=> .inl (ae O2.1 j hj).1));clear av af cu)
        |(go_at_call 213;refine RB2.1.mono ?_;rintro e w2 ⟨rfl,hb,hg⟩;have B2:=Aj hb;have G2:=Aj (HI.1.grown.trans hg);have O2:=Aj (O1.1 w2 hg);have k0:=CE.1 w2 hg;clear hb hg))
       go_roundw
       case rel=>
        refine⟨i+1,A4,c4,acc++[x],r3,rfl,by go_num,om,?_,by simp[HI.1.len],O4.1,B4.1,G4.1⟩;rw[show K-(i+1)=K-i-1 from om];exact hst.1.symm
       case measure=>simp[intOf];omega
    ·rw[Ps0 sm]at hst;go_wp2_with (go_at_call 213;refine RB2.1.mono ?_;rintro e w2 ⟨rfl,hb,hg⟩;have B2:=Aj hb;have G2:=Aj (HI.1.grown.trans hg);clear hb hg);go_ret2;rw[hst.1];exact⟨none,0,0,rfl,⟨rfl,.inl ⟨rfl,rfl⟩⟩,B2.1,G2.1⟩
   ·obtain rfl:i=K:=by omega
    have hq:Kept (X=(acc,r2,0)):=⟨by rw[←HI.1.gd,Dz,Di.Wl]⟩
    go_wp2;go_ret2;rw[hq.1];exact⟨A2,i,c2,rfl,HI.1.own,HI.1.br,HI.1.grown⟩
 ·rw[Ps0 sm]at hX;have HX:=Aj hX;clear hX;go_enter func264,ntmps264;go_wp2_with (go_at_call 213;refine RB.1.mono ?_;rintro e w1 ⟨rfl,hb,hg⟩;have B1:=Aj hb;have G1:=Aj hg;clear hb hg);go_ret2;rw[HX.1];exact⟨none,0,0,rfl,⟨rfl,.inl ⟨rfl,rfl⟩⟩,B1.1,G1.1⟩
theorem Di.ZE {r} (h:(Di.Gn r).2.2=0):Di.Up (Di.Gn r).1∧(∀x∈(Di.Gn r).1,x<2^64)∧1≤(Di.Gn r).1.length∧(Di.Gn r).1.length≤128:=by
 unfold Di.Gn at*;have h7:=Tm.jF 7 r;by_cases h0:(Tm.rd 7 r).2.2≠0
 ·rw[Ps0 h0]at h;exact absurd h h0
 ·rw[Ng h0]at h⊢;obtain⟨m,hm,hl,hu,hx,-⟩:=Di.Qt ((Tm.rd 7 r).1+1) [] (Tm.rd 7 r).2.1 _ _ List.Pairwise.nil (show Di.gd ((Tm.rd 7 r).1+1) [] (Tm.rd 7 r).2.1=(_,_,0)by rw[←h]);refine⟨hu,?_,?_,?_⟩
  ·rw[hm];simpa using hx
  ·rw[hm];simp;omega
  ·rw[hm];simp;omega
theorem Di.Wo (n r):Di.dec n r=if n=0 then([],r,0)else if(Di.Gn r).2.2≠0 then([],(Di.Gn r).2)else Di.vO n (Di.Gn r).1 (Di.Gn r).2.1:=by
 unfold Di.dec Di.Gn;by_cases h0:(Tm.rd 7 r).2.2≠0
 ·simp only[Ps0 h0]
 ·simp only[Ng h0]
theorem Di.Wp {m} (hm:0<m) (d acc r):Di.gv d m acc r=if(Tm.rd (Di.mO d.length) r).2.2≠0 then([],(Tm.rd (Di.mO d.length) r).2)else if d.length≤(Tm.rd (Di.mO d.length) r).1 then([],(Tm.rd (Di.mO d.length) r).2.1,8)else Di.gv d (m-1) (acc++[d.getD (Tm.rd (Di.mO d.length) r).1 0]) (Tm.rd (Di.mO d.length) r).2.1:=by
 obtain⟨k,rfl⟩:∃k,m=k+1:=⟨m-1,om⟩
 rw[Di.gv];rfl
theorem Di.count {d acc ks:List Nat} (hu:Di.Up d) (hk:∀i∈ks,i<d.length) (hn:ks.Nodup) (hm:∀z,z∈acc↔∃i∈ks,d.getD i 0=z):(Di.eO acc).length=ks.length:=by
 have e:∀i (h:i<d.length),d.getD i 0=d[i]:=fun i h=>by rw[jw,kK h];rfl
 have hnd:(ks.map fun i=>d.getD i 0).Nodup:=by
  refine List.pairwise_map.2 (hn.imp_of_mem fun{i j} hi hj hne hij=>hne ?_);rw[e i (hk i hi),e j (hk j hj)]at hij;rcases Ea i j with q|q|q
  ·have:=(Di.Si hu (hk i hi) (hk j hj)).2 q;omega
  ·exact q
  ·have:=(Di.Si hu (hk j hj) (hk i hi)).2 q;omega
 have h1:(Di.eO acc).Nodup:=(Di.pg acc).imp fun h=>Nat.ne_of_lt h
 have hs:∀z,z∈Di.eO acc↔z∈ks.map fun i=>d.getD i 0:=fun z=>by
  rw[Di.fe,hm z,bQ]
 have a:=iJ h1 (fun z h=>(hs z).1 h);have b:=iJ hnd (fun z h=>(hs z).2 h);rw[fF]at a b;omega
structure DgI (w:World) (p n b K:Nat) (A2:Option Addr) (c2:Nat) (d:List Nat) (Q:List Nat×List Bool×Int) (j:Nat) (A:Option Addr) (c:Nat) (W:World) (acc:List Nat) (r:List Bool) (D:DataW Unit) (ks:List Nat):Prop where
 gv:Di.gv d (n-j) acc r=Q
 len:acc.length=j
 own:aI W (b+1) A j c acc
 eO:aI W w.heap.size A2 K c2 d
 below:∀g,ab A2=some g→g<b
 km:Km W b j D ks
 mem:∀z,z∈acc↔∃i∈ks,d.getD i 0=z
 idx:∀i∈ks,i<K
 br:Br W p r
 grown:w.grownBy W (some p)
 le:w.heap.size≤b
theorem DgI.next {w W w2 w3 w5 p n b K c2 j c i c4 A2 A A4 d acc ks Q r r4 D E} (I:DgI w p n b K A2 c2 d Q j A c W acc r D ks)
  (hp:p<w.heap.size) (hst:Q=Di.gv d (n-j-1) (acc++[d.getD i 0]) r4) (hi:i<K) (_:j<n) (hb2:Br w2 p r4) (hg2:W.grownBy w2 (some p)) (Ff:w3.ownsMap prog 125 (plainElem prog 4) b (j+1) (D.put (kl i) E)) (hg3:w2.grownBy w3 (some b)) (o)
  (h5:aI w5 (b+1) A4 (j+1) c4 (acc++[d.getD i 0])) (hg5:(w3.alloc o).grownBy w5 (ab A)):DgI w p n b K A2 c2 d Q (j+1) A4 c4 w5 (acc++[d.getD i 0]) r4 (D.put (kl i) E) (i::ks.filter (· ≠i)):=by
 have hlb:=I.le;have hlA:∀g,ab A=some g→b+1≤g:=fun g e=>(ae I.own g e).1
 have hga:w3.grownBy (w3.alloc o) none:=Ga w3 o none;have hd2:aI w2 w.heap.size A2 K c2 d:=lg I.eO hg2 hp;have hd3:aI w3 w.heap.size A2 K c2 d:=ag hd2 hg3 (by
  rcases hA:ab A2 with _|g
  ·exact .inl rfl
  ·exact .inr fun e=>by have:=I.below g hA;have:=Oj e;omega)
 have hd4:aI (w3.alloc o) w.heap.size A2 K c2 d:=Oa hd3 o;have hd5:aI w5 w.heap.size A2 K c2 d:=ag hd4 hg5 (by
  rcases hA:ab A2 with _|g
  ·exact .inl rfl
  ·refine .inr fun e=>?_
   have h1:=I.below g hA;have h2:=hlA g e.symm;omega)
 have Y7:Km w3 b (j+1) (D.put (kl i) E) (i::ks.filter (· ≠i)):=(I.km.kept hg2 (fun e=>by have:=Oj e;omega)).put i Ff;have PU:=(Y7.kept hga sm).kept hg5 (fun e=>by have:=hlA b e.symm;omega);have hb5:=(((hb2.grown hg3 (fun g e=>by cases e;omega)).grown hga (fun g e=>by cases e)).grown hg5 (fun g e=>by have:=hlA g e;omega))
 have hgr:=(((I.grown.trans hg2).andThen hg3 (fun j hj=> .inl (by cases hj;exact hlb))).andThen hga (fun j hj=>by cases hj)).andThen hg5 (fun j hj=> .inl (by have:=hlA j hj;omega));refine⟨by rw[show n-(j+1)=n-j-1 from om];exact hst.symm,by simp[I.len],h5,hd5,I.below,PU,fun z=>?_,fun q hq=>?_,hb5,hgr,hlb⟩
 ·rw[ja,I.mem z,gz];constructor
  ·rintro(⟨q,hq,rfl⟩|rfl)
   ·by_cases hqi:q=i
    ·exact⟨i,sm,by rw[hqi]⟩
    ·exact⟨q,by simp[hq,hqi],rfl⟩
   ·exact⟨i,sm,rfl⟩
  ·rintro⟨q,hq,rfl⟩;rcases dV.1 hq with rfl|hq
   ·exact .inr rfl
   ·exact .inl ⟨q,(Ca.1 hq).1,rfl⟩
 ·rcases dV.1 hq with rfl|hq
  ·exact hi
  ·exact I.idx q (Ca.1 hq).1
theorem Sj (p n:Nat) (r w) (h:Br w p r) (hn:n≤1000000):
  Calls prog 223 #[.pointer (some ⟨p,0,none⟩),.int .i64 (n:Int)] w fun e w'=>∃A2 n2 c2,e= .returned (.tuple #[.slice A2 n2 c2,.int .i64 (Di.dec n r).2.2])∧aI w' w.heap.size A2 n2 c2 (Di.dec n r).1∧Br w' p (Di.dec n r).2.1∧w.grownBy w' (some p):=by
 have hp:=h.lt;have GD:=Aj (NN p r w h);have hok:= @Di.ZE r;obtain⟨X,hX⟩:∃X,X=Di.dec n r:=⟨_,rfl⟩
 rw[←hX];rw[Di.Wo]at hX;generalize Di.Gn r=Y at*;obtain⟨d,r1,e1⟩:=Y;simp only[]at GD hok hX;have H0:=Aj h;clear h;have hnn:¬(n:Int)<0:=om;by_cases hn0:n=0
 ·subst hn0;rw[Ps0 rfl]at hX;have HX:=Aj hX;clear hX;go_enter func223,ntmps223;go_wp2;go_ret2;rw[HX.1];exact⟨none,0,0,rfl,⟨rfl,.inl ⟨rfl,rfl⟩⟩,H0.1,⟨rfl,rfl,rfl,Nr _,fun _ _ _=>rfl⟩⟩
 ·have hn1:¬(n:Int)=0:=by omega
  rw[Ng hn0]at hX;by_cases he:e1=0
  ·subst he;rw[Ng sm]at hX;obtain⟨hu,ma,hK0,hK1⟩:=hok rfl;obtain⟨Q,hQ⟩:∃Q,Di.gv d n [] r1=Q:=⟨_,rfl⟩
   obtain⟨K,hKd⟩:∃K,d.length=K:=⟨_,rfl⟩
   have HX:Kept (X=if Q.2.2≠0 then([],Q.2)else if(Di.eO Q.1).length<K then([],Q.2.1,8)else Q):=⟨by rw[hX];unfold Di.vO;rw[hQ,hKd]⟩
   rw[hKd]at hK0 hK1;have HQ:=Aj hQ;have HU:=Aj hu;have HKd:=Aj hKd;have W0:=Aj (fun w=>p9 K om w);have hv7:Di.mO K≤7:=Di.JJ hK1;have hmm:= @run_makeMap prog;clear hX hok hQ hu ma;have hKu:IntKind.u64.wrap (K:Int)=(K:Int):=by rw[Bv];omega
   go_enter func223,ntmps223;go_wp2_with (go_at_call 264;refine GD.1.mono ?_;rintro e w1 ⟨A2,n2,c2,rfl,ho,hb,hg⟩;obtain rfl:n2=K:=ho.len.trans hKd;have B1:=Aj hb;have G1:=Aj hg;have O1:=Aj ho;clear ho hb hg);obtain⟨v,hv⟩:∃v,Di.mO n2=v:=⟨_,rfl⟩
   rw[hv]at W0 hv7;have HV:=Aj hv;have hA2:∃g,A2=some ⟨g,0,none⟩∧w.heap.size≤g∧g<w1.heap.size:=O1.1.pos om;obtain⟨g,rfl,hg1,hg2⟩:=hA2;have hcap:=O1.1.rd.1;have hwb:=G1.1.size;have I0:DgI w p n w1.heap.size n2 (some ⟨g,0,none⟩) c2 d Q 0 none 0 (w1.alloc (.map #[] 0)) [] r1 (.map []) []:=
    ⟨HQ.1,rfl,⟨rfl,.inl ⟨rfl,rfl⟩⟩,Oa O1.1 _,fun q e=>by have:=(show g=q by simpa[ab]using e);omega,Km.made w1,sm,sm,B1.1.grown (Ga w1 _ none) (fun g e=>by cases e),G1.1.andThen (Ga w1 _ none) (fun j hj=>by cases hj),hwb⟩
   clear hv hKd B1 G1 O1 GD H0 HQ;go_loopw [8,31] (fun u iv wr=>∃(j:Nat) (A3:Option Addr) (c3:Nat) (acc:List Nat) (r2:List Bool) (D:DataW Unit) (ks:List Nat),u= .slice A3 j c3∧iv= .int .i64 (j:Int)∧j≤n∧DgI w p n w1.heap.size n2 (some ⟨g,0,none⟩) c2 d Q j A3 c3 wr acc r2 D ks) (fun _ iv _=>n-(intOf iv).toNat)
   case atStart=>exact⟨0,none,0,[],r1,.map [],[],rfl,rfl,bE _,I0⟩
   case round=>
    clear I0;obtain⟨j,A3,c3,acc,r2,D,ks,rfl,rfl,hjn,I⟩:=hrel;have HI:=Aj I;have hwz:=I.grown.size;have akS:w1.heap.size<wr.heap.size:=I.km.1.lt;clear I;by_cases hjl:j<n
    ·have afL:(j:Int)< (n:Int):=by omega
     have RB:=Aj (dG p v r2 wr HI.1.br om);have hst:=Aj (Di.Wp (m:=n-j) om d acc r2);rw[HI.1.gv,HKd.1,HV.1]at hst;have mH:=Tm.p8 v r2;have hlt2:(Tm.rd v r2).1<2^64:=ku (Tm.jF v r2) (kP Ah om);generalize Tm.rd v r2=Y at*;obtain⟨i,r4,e4⟩:=Y;simp only[]at RB hst mH hlt2;rcases mH with rfl|rfl
     ·rw[Ng sm]at hst;by_cases hik:n2≤i
      ·rw[Ps0 hik]at hst;have afM:(n2:Int)≤(i:Int):=om;have hx:Kept (X=([],r4,8)):=⟨by rw[HX.1,hst.1];simp⟩
       go_wp2_with (first
        |(go_at_call 262;refine(W0.1 _).mono ?_;rintro e w2 ⟨rfl,rfl⟩)
        |(go_at_call 213;refine RB.1.mono ?_;rintro e w2 ⟨rfl,hb,hg⟩;have B2:=Aj hb;have G2:=Aj (HI.1.grown.trans hg);clear hb hg))
       go_ret2;rw[hx.1];exact⟨none,0,0,rfl,⟨rfl,.inl ⟨rfl,rfl⟩⟩,B2.1,G2.1⟩
      ·rw[Ng hik]at hst;have afM:¬(n2:Int)≤(i:Int):=om;have hid:i<d.length:=by have:=HKd.1;omega
       have HKY:=Aj (Sc hlt2);have CE:=Aj (show∀w2 w3,wr.grownBy w2 (some p)→w2.grownBy w3 (some w1.heap.size)→w3.cell? ⟨g,i,none⟩=some (.int .u64 ((d.getD i 0:Nat):Int))from fun w2 w3 h2 h3=>by
        have hd2:aI w2 w.heap.size (some ⟨g,0,none⟩) n2 c2 d:=lg HI.1.eO h2 hp;have hd3:aI w3 w.heap.size (some ⟨g,0,none⟩) n2 c2 d:=ag hd2 h3 (.inr (fun e=>by have:=(show g=w1.heap.size by simpa[ab]using e);omega));have e:d.getD i 0=d[i]:=by rw[jw,kK hid];rfl
        rw[e];exact(hd3.at_ hid).1)
       have OA:=Aj (show∀w2 w3,wr.grownBy w2 (some p)→w2.grownBy w3 (some w1.heap.size)→aI w3 (w1.heap.size+1) A3 j c3 acc from fun w2 w3 h2 h3=>ag (lg HI.1.own h2 om) h3 (by
        rcases hA:ab A3 with _|q
        ·exact .inl rfl
        ·exact .inr fun e=>by have:=(ae HI.1.own q hA).1;have:=Oj e;omega))
       have KM2:=Aj (show∀w2,wr.grownBy w2 (some p)→Km w2 w1.heap.size j D ks from fun w2 h2=>HI.1.km.kept h2 (fun e=>by have:=Oj e;omega));have hin2:i<n2:=om;have NX:=Aj (fun(w2 w3 w5:World) (A4:Option Addr) (c4:Nat) (E:DataW Unit) (o:Obj) (hb2:Br w2 p r4) (hg2:wr.grownBy w2 (some p)) (Ff:w3.ownsMap prog 125 (plainElem prog 4) w1.heap.size (j+1) (D.put (kl i) E)) (hg3:w2.grownBy w3 (some w1.heap.size)) h5 h6=>HI.1.next (w5:=w5) (A4:=A4) (c4:=c4) (E:=E) hp hst.1 hin2 hjl hb2 hg2 Ff hg3 o h5 h6);clear hid hlt2;generalize d.getD i 0=x at*;go_wp2_with (first
        |(go_at_call 262;refine(W0.1 _).mono ?_;rintro e w2 ⟨rfl,rfl⟩)
        |(at_mapUpdate;refine wpList_mapUpdate_own _ rfl _ _ _ 386 rfl 125 4 V9 underlying386 _ w1.heap.size j _ rfl (KM2.1 w2 G2.1).1 (by unfold maxLen;omega) _ _ _ rfl rfl HKY.1 _ [] (plainElem_bool underlying4 true) ?_;intro w3 hown3 hgrow3;have k0:=CE.1 w2 w3 G2.1 hgrow3;have M3:=Aj hown3;have G3:=Aj hgrow3;have O3:=Aj (OA.1 w2 w3 G2.1 hgrow3);have hz3:=hgrow3.size;clear hown3 hgrow3)
        |(at_builtin;refine dF rfl (.tmp 53) (.tmp 58) rfl (w1.heap.size+1) A3 j c3 _ rfl (Oa O3.1 _) _ _ _ _ _ rfl (kD.one w3 x) om (by simp;omega) ?_;intro A4 c4 w5 av af cu;have IX:=Aj (NX.1 w2 w3 w5 A4 c4 _ _ B2.1 G2.1 M3.1 G3.1 av af);clear av af cu)
        |(go_at_call 213;refine RB.1.mono ?_;rintro e w2 ⟨rfl,hb,hg⟩;have B2:=Aj hb;have G2:=Aj hg;have hz2:=hg.size;clear hb hg))
       go_roundw
       case rel=>exact⟨j+1,A4,c4,_,_,_,_,rfl,by go_num,om,IX.1⟩
       case measure=>simp[intOf];omega
     ·rw[Ps0 sm]at hst;have hx:Kept (X=([],r4,3)):=⟨by rw[HX.1,hst.1];simp⟩
      go_wp2_with (first
       |(go_at_call 262;refine(W0.1 _).mono ?_;rintro e w2 ⟨rfl,rfl⟩)
       |(go_at_call 213;refine RB.1.mono ?_;rintro e w2 ⟨rfl,hb,hg⟩;have B2:=Aj hb;have G2:=Aj (HI.1.grown.trans hg);clear hb hg))
      go_ret2;rw[hx.1];exact⟨none,0,0,rfl,⟨rfl,.inl ⟨rfl,rfl⟩⟩,B2.1,G2.1⟩
    ·obtain rfl:j=n:=by omega
     have hq:Q=(acc,r2,0):=by rw[←HI.1.gv,Dz];simp[Di.gv]
     have hcnt:=Di.count HU.1 (fun i hi=>by rw[HKd.1];exact HI.1.idx i hi) HI.1.km.2.choose_spec.2.2 HI.1.mem;have hx:Kept (X=if ks.length<n2 then([],r2,8)else(acc,r2,0)):=⟨by rw[HX.1,hq];simp[hcnt]⟩
     have hlen:=HI.1.km.1.len underlying386 3;rw[HI.1.km.size]at hlen;clear hcnt hq;by_cases hks:ks.length<n2
     ·rw[Ps0 hks]at hx;have afO:(ks.length:Int)< (n2:Int):=om;go_wp2;go_ret2;rw[hx.1];exact⟨none,0,0,rfl,⟨rfl,.inl ⟨rfl,rfl⟩⟩,HI.1.br,HI.1.grown⟩
     ·rw[Ng hks]at hx;have afO:¬(ks.length:Int)< (n2:Int):=om;go_wp2;go_ret2;rw[hx.1];exact⟨A3,j,c3,rfl,JF HI.1.own om,HI.1.br,HI.1.grown⟩
  ·rw[Ps0 he]at hX;have HX:=Aj hX;clear hX hok;have hne:(e1 !=0)=true:=by simpa using he
   clear he;go_enter func223,ntmps223;go_wp2_with (go_at_call 264;refine GD.1.mono ?_;rintro e w1 ⟨A2,n2,c2,rfl,ho,hb,hg⟩;have B1:=Aj hb;have G1:=Aj hg;clear ho hb hg);go_ret2;rw[HX.1];exact⟨none,0,0,rfl,⟨rfl,.inl ⟨rfl,rfl⟩⟩,B1.1,G1.1⟩
section
attribute [local go_sem] Oper.semAt_some
theorem pY.wk {w w' base p} (h:pY w) (hk:Wk base p w w') (hg:0<base):pY w':=fun i v hi=>(hk.aX.cell (p:=⟨_,i,none⟩) hg).trans (h i v hi)
theorem Boxed.wk {w w' base p bx t v} (h:Boxed w bx t v) (hk:Wk base p w w') (hne:bx≠p) (ht:t≠5):Boxed w' bx t v:=
 (hk.rest bx h.lt hne (fun cs fr e=>by
  have e2:=(show w.heap[bx]? =some (.cells #[v] t (0,0))from h).symm.trans e;simp only[gK,DU]at e2;exact ht e2.2.1)).trans h
theorem Wk.kept {w w' base p g cs t fr} (hk:Wk base p w w') (hg:w.heap[g]? =some (.cells cs t fr)) (hne:g≠p) (ht:t≠5):w'.heap[g]? =some (.cells cs t fr):=
 (hk.rest g (Ge.1 hg).1 hne (fun cs2 fr2 e=>by
  have e2:=hg.symm.trans e;simp only[gK,DU]at e2;exact ht e2.2.1)).trans hg
theorem Wk.keeps {base p B w w'} (h:Wk base p w w') (hp:∀o,w.heap[p]? =some o→o.isCells=true):KeepsFrom B w w':=
 ⟨h.aX.size,fun r _ o ho hc=>(h.rest r (Ge.1 ho).1 (fun e=>by subst e;rw[hp _ ho]at hc;cases hc) (fun cs fr e=>by rw[ho]at e;cases e;cases hc)).trans ho⟩
theorem fC.cells {w base p bs} (h:fC w base p bs):∀o,w.heap[p]? =some o→o.isCells=true:=by
 obtain⟨A,n,c,L,h1,-⟩:=h;intro o ho;rw[h1]at ho;cases ho;rfl
theorem fC.gr {w w' base p bs} (h:fC w base p bs) (hg:Gr w w'):fC w' base p bs:=by
 obtain⟨A,n,c,L,h1,h2,h3,h4⟩:=h;have hp:=(Ge.1 h1).1;exact⟨A,n,c,L,(hg.below.block p hp).trans h1,own_below h2 hg.below (fun g e=>(ae h2 g e).2),h3,h4⟩
theorem Wk.gr {base p w w'} (h:Gr w w') (hb:base≤w.heap.size):Wk base p w w':=⟨h.below.mono hb,fun k hk _ _=>h.below.block k hk⟩
theorem fC.alloc {w base p bs} (h:fC w base p bs) (o):fC (w.alloc o) base p bs:=h.gr ((Gr.refl w).alloc o)
theorem fC.apart {w w' base p bs row} (h:fC w base p bs) (hg:w.grownBy w' row) (hr:∀r,row=some r→∃o:Obj,w.heap[r]? =some o∧o.isCells=false):fC w' base p bs:=by
 obtain⟨A,n,c,L,h1,h2,h3,h4⟩:=h;refine⟨A,n,c,L,(hg.block p (Ge.1 h1).1 (fun e=>?_)).trans h1,h2.apart hg (fun r e=> .inr (hr r e)),h3,h4⟩;obtain⟨o,ho,hc⟩:=hr p e.symm;rw[h1]at ho;cases ho;cases hc
theorem Wk.more {base p w W W' row} (h:Wk base p w W) (hg:W.grownBy W' row) (hb:base≤w.heap.size) (hr:∀r,row=some r→w.heap.size≤r):Wk base p w W':=
 ⟨h.aX.grown hg (by have:=h.aX.size;omega) (fun r e=>by have:=hr r e;omega),fun k hk hp hn=>(hg.block k (by have:=h.aX.size;omega) (fun e=>by have:=hr k e.symm;omega)).trans (h.rest k hk hp hn)⟩
def uK (w:World) (base p:Nat) (bs:List Bool) (bx:Nat) (v:Value) (pre:List Int) (W:World):Prop:=
 fC W base p (bs++pre.flatMap Tm.ch)∧Wk base p w W∧Boxed W w.heap.size 302 (.pointer (some ⟨p,0,none⟩))∧Boxed W bx 281 v
theorem uK.own {w base p N bx v bs} (hb:base≤w.heap.size) (hN:w.heap.size<N) (hx:bx<N):aH N (fun _=>False) (uK w base p bs bx v):=by
 rintro s W W' row ⟨h1,h2,h3,h4⟩ hg hr;have hrow:∀r,row=some r→N≤r∧∃o:Obj,W.heap[r]? =some o∧o.isCells=false:=fun r e=>by
  rcases hr r e with h|h
  ·exact h.elim
  ·exact h
 exact⟨h1.apart hg (fun r e=>(hrow r e).2),h2.more hg hb (fun r e=>by have:=(hrow r e).1;omega),h3.kept hg (fun e=>by have:=(hrow _ e.symm).1;omega),h4.kept hg (fun e=>by have:=(hrow _ e.symm).1;omega)⟩
def Tm.fst:List Int→List Bool
 |[]=>[]
 |t::_=>Bt.bw 64 (Tm.wd t)
theorem Tm.Wq (l):(Tm.fst l).length≤64:=by cases l<;>simp[Tm.fst,Bt.aj]
theorem Tm.Sk (l):(Tm.uI l).length≤l.length:=by
 cases l with
 |nil=>simp[Tm.uI]
 |cons t l=>rw[Tm.uI,Ck.yB];simp
theorem Tm.Ws (l:List Int):(l.flatMap Tm.ch).length≤68*l.length:=Ck.nQ (f:=Tm.ch) (B:=68) (fun x=>by
 unfold Tm.ch;rw[La,Bt.aj,Bt.aj];exact Ck.XQ (Tm.EW x)) l
theorem Sl (base p B bs A n c l w) (h:fC w base p bs) (hr:vK w B A n c l) (hB:B≤base) (hF:pY w) (hg:0<base)
  (hin:∀x∈l,Tm.In x) (hn:n≤1000000) (hl:bs.length≤100000000):
  Calls prog 192 #[.pointer (some ⟨p,0,none⟩),.slice A n c] w fun e w'=>e= .returned (.int .i64 0)∧fC w' base p (bs++Tm.enc l)∧Wk base p w w':=by
 have hln:=Aj hr.len;have hlc:=hr.1;have hcm:=hr.2.1;unfold maxLen at hcm;have hz:=h.lt;have henc:Kept (Tm.enc l=Tm.fst l++(Tm.uI l).flatMap Tm.ch):=⟨by cases l<;>rfl⟩
 have XH:p≠w.heap.size:=om;have hbx:=Bb w 302 (.pointer (some ⟨p,0,none⟩));have H0:=Aj (h.alloc (.cells #[.pointer (some ⟨p,0,none⟩)] 302));have K0:=Aj ((Wk.refl base p w).alloc (.cells #[.pointer (some ⟨p,0,none⟩)] 302) om);have R0:=Aj hr;obtain⟨W0,hW0⟩:∃W0,W0=w.alloc (.cells #[.pointer (some ⟨p,0,none⟩)] 302):=⟨_,rfl⟩
 have hz0:W0.heap.size=w.heap.size+1:=by rw[hW0];simp
 have HW0:=Aj hW0.symm;rw[←hW0]at hbx H0 K0;have hc0:=hbx.cell;have HBX:=Aj hbx;have HF:=Aj hF;clear h hr hW0 hbx hF;refine(Bj (n:=9)).1 ?_;refine Cu func192 rfl trivial ?_ rfl;simp only[ntmps192,Cf,Lc,AZ,Nat.reduceAdd,Nat.reduceSub,Ch,Ci,CW,Cv,Az,Ba];refine Bu.2 ?_;go_upto_if 11 with(fail)
 rw[HW0.1];go_cut []from 5 (fun wx=>fC wx base p (bs++Tm.fst l)∧Wk base p w wx∧Boxed wx w.heap.size 302 (.pointer (some ⟨p,0,none⟩)))
 case first=>
  cases l with
  |nil=>
   have hn0:n=0:=hln.1;subst hn0;go_wp2;go_meet;exact⟨by simpa[Tm.fst]using H0.1,K0.1,HBX.1⟩
  |cons t l=>
   obtain⟨b,off,rfl,jT,hck⟩:=R0.1.at_ (k:=0) sm;simp only[Cr,BH]at hck;have hwl:=Tm.KE t;have hwd:=Tm.zq t;have hpos:(0:Int)< (n:Int):=by have:=hln.1;simp at this;omega
   have akT:W0.cell? ⟨b,off,none⟩=some (.int .i64 t):=by
    rw[←HW0.1];exact(AB _ _ ⟨b,off,none⟩ (by show b<_;omega)).trans hck
   clear hck;go_upto_region 4 with(fail)
   refine wp_region_still_tail 5 kr kr ?_;simp only[Cb,Eg,AY,Bq]
   repeat still_step
   refine wpStill_nil ?_
   change wpList _ _ _ _ _ W0.drew
   go_wp2_with (go_at_call 191;refine(bY base p (Tm.wd t) 64 bs _ (by exact H0.1) hwl om om).mono ?_;rintro e w2 ⟨rfl,hw2,hk2⟩;have H2:=Aj hw2;have K2:=Aj (K0.1.drew.trans hk2);have X2:=Aj (show Boxed w2 w.heap.size _ _ from Boxed.wk (show Boxed W0.drew w.heap.size _ _ from HBX.1) hk2 XH.symm Ah);clear hw2 hk2);go_meet;exact⟨H2.1,K2.1,X2.1⟩
 case rest=>
  rename World=>wx
  obtain⟨hwx,hkx,hbx⟩:=hcut;clear hc0 HBX H0 K0 HW0 hz0;go_wp2_with (go_at_call 241;refine(Gg _ _ _ wx).mono ?_;rintro e w3 ⟨rfl,hw3⟩;have HW3:=Aj hw3;clear hw3);have hzx:=hkx.aX.size;have hz3:w3.heap.size=wx.heap.size+1:=by rw[HW3.1];simp
  have g3:wx.grownBy w3 none:=by rw[HW3.1];exact Ga _ _ _
  have hI0:uK w base p (bs++Tm.fst l) wx.heap.size (.slice A n c) [] w3:=⟨by rw[Dq,Bg];exact hwx.apart g3 (fun r e=>by cases e),hkx.more g3 om (fun r e=>by cases e),hbx.kept g3 (fun e=>by cases e),by rw[HW3.1];exact Bb _ _ _⟩
  have b3:Boxed w3 wx.heap.size 281 (.slice A n c):=by rw[HW3.1];exact Bb _ _ _
  have r3:vK w3 B A n c l:=(R0.1.below (hkx.aX.mono hB)).below ((Ae B wx).grown g3 om (fun r e=>by cases e));have HFx:=Aj (HF.1.wk hkx hg);clear hwx hkx hbx;refine(Bu (n:=9)).1 ?_;refine jg Ah (gf:=270) (lb:= #[.pointer (some ⟨wx.heap.size,0,none⟩)]) rfl (enters_of func270 kr rfl)
   (encs:=V7) (O:=fun _=>False) (Kp:=zP B wx.heap.size) (L:=Tm.uI l)
   (by rintro r h;exact h.elim) (fun h k=>h.trans k) (fun W W' row hW hg hr=>zP.grown hW om om hg hr) (fun _=>rfl)
   (uK w base p (bs++Tm.fst l) wx.heap.size (.slice A n c)) (fun _ _ _=>False)
   (fun pre x a₁ W=>uK w base p (bs++Tm.fst l) wx.heap.size (.slice A n c) pre W∧
    a₁={tmps:= #[.pointer (some ⟨p,0,none⟩),.slice A n c,.pointer (some ⟨w.heap.size,0,none⟩),undef,.int .i64 0,.int .i64 x,u6,u7,u8,u9,u10,u11,u12,u13,u14,u15,u16,u17,.slice A n c,.func (.func 270) #[] #[.pointer (some ⟨wx.heap.size,0,none⟩)],.int .i64 x,u21,u22,u23,u24,u25,u26,u27,u28,u29,u30,u31,u32,u33,u34,u35,u36],defers:=[]})
   (uJ 8 wx.heap.size B 0 n c A l w3 _ b3 r3 (bE _) (fun pre W ⟨_,h⟩=>h))
   ?hI (fun _ _ _ _ _ h _ _=>h) ?hM hI0 ?assign ?body ?done ?stop
  case hI=>rw[hz3];exact uK.own om om om
  case hM=>
   rw[hz3];rintro pre x a₁ u W W' row ⟨hI,ha⟩ hgr hr;exact⟨uK.own om om om _ _ _ _ hI hgr hr,ha⟩
  case assign=>
   rintro lp pre x W hI hpre hW;unfold V7
   gi_wp2
   exact⟨⟨Nr _,fun _ _ _ h _=>h⟩,⟨Ae _ _,rfl⟩,hI,trivial⟩
  case body=>
   rintro lp pre x a₁ W ⟨⟨hw1,hk1,hb1,hb2⟩,rfl⟩ hpre hW;have hx:Tm.In x:=Tm.V3 l x (hpre.subset sm);have hlx:=hpre.length_le;rw[La,DF]at hlx;have hcl:=Tm.Sk l;have hlb:Kept ((bs++Tm.fst l++pre.flatMap Tm.ch).length≤900000000):=⟨by
    have h1:=Tm.Ws pre;have h2:=Tm.Wq l;have h3:=hln.1;simp only[La];omega⟩
   have HF1:=HF.1.wk hk1 hg;have hi4:=Tm.EW x;have hwl:=Tm.KE x;have hwd:=Tm.zq x;have hfw:=Tm.Yj (Tm.fm x);have hfl:Tm.fl (Tm.fm x)≤4:=by unfold Tm.fl;split<;>omega
   have Pf:Tm.fb (Tm.fm x)≤15:=by unfold Tm.fb;split<;>omega
   have hcell:Kept (∀w1,pY w1→w1.cell? ⟨0,Tm.fm x*3,none⟩=some (.int .u64 ((Tm.fb (Tm.fm x):Nat):Int))∧w1.cell? ⟨0,Tm.fm x*3+1,none⟩=some (.int .i64 ((Tm.fl (Tm.fm x):Nat):Int))∧
     w1.cell? ⟨0,Tm.fm x*3+2,none⟩=some (.int .i64 ((Tm.fw (Tm.fm x):Nat):Int))):=⟨fun w1 h1=>by
    rcases(by omega:Tm.fm x=0∨Tm.fm x=1∨Tm.fm x=2∨Tm.fm x=3∨Tm.fm x=4)with h|h|h|h|h<;>rw[h]
    ·exact⟨h1 0 _ rfl,h1 1 _ rfl,h1 2 _ rfl⟩
    ·exact⟨h1 3 _ rfl,h1 4 _ rfl,h1 5 _ rfl⟩
    ·exact⟨h1 6 _ rfl,h1 7 _ rfl,h1 8 _ rfl⟩
    ·exact⟨h1 9 _ rfl,h1 10 _ rfl,h1 11 _ rfl⟩
    ·exact⟨h1 12 _ rfl,h1 13 _ rfl,h1 14 _ rfl⟩⟩
   have FO:=Aj (Bj (n:=6).2 (uH x W hx HF1));have hch:Kept (Tm.ch x=Bt.bw (Tm.fl (Tm.fm x)) (Tm.fb (Tm.fm x))++Bt.bw (Tm.fw (Tm.fm x)) (Tm.wd x)):=⟨rfl⟩
   generalize hi:Tm.fm x=i at*;have hi5:(i:Int)<5:=om;have H1:=Aj hw1;have K1:=Aj hk1;have X1:=Aj hb1;have Z1:=Aj hb2;have F1:=Aj HF1;clear hw1 hk1 hb1 hb2 HF1 hi;have tf1:Fence.wide.fn 242:=trivial;have tf2:Fence.wide.fn 191:=trivial;have WB:=Aj (fun(w1:World) (h1:fC w1 base p (bs++Tm.fst l++pre.flatMap Tm.ch))=>CallsIn.inRound lp (Bj (n:=6).2 (bY base p (Tm.fb i) (Tm.fl i) _ w1 h1 om om (by have:=hlb.1;omega))));have WC:=Aj (fun(w1:World) (h1:fC w1 base p (bs++Tm.fst l++pre.flatMap Tm.ch++Bt.bw (Tm.fl i) (Tm.fb i)))=>CallsIn.inRound lp (Bj (n:=6).2 (bY base p (Tm.wd x) (Tm.fw i) _ w1 h1 hwl om (by have:=hlb.1;rw[La,Bt.aj];omega))))
   gi_wp2_with (first
    |(gi_at_call 191;refine(WC.1 w3 H3.1).mono ?_;rintro e w4 ⟨rfl,hw4,hk4⟩;have H4:=Aj hw4;have K4:=Aj (K3.1.trans hk4);have X4:=Aj (Boxed.wk X3.1 hk4 XH.symm Ah);clear hw4 hk4)
    |(gi_at_call 191;refine(WB.1 _ H2.1).mono ?_;rintro e w3 ⟨rfl,hw3,hk3⟩;have H3:=Aj hw3;have K3:=Aj (K2.1.trans hk3);have X3:=Aj (Boxed.wk X2.1 hk3 XH.symm Ah);have d0:=Boxed.cell X3.1;have d1:=Co _ _ 2 _ _ _ (Wk.kept hk3 Y2.1 hy1 Ah);clear hw3 hk3)
    |(gi_at_call 242;refine(CallsIn.inRound lp FO.1).mono ?_;rintro e w1 ⟨rfl,hg1⟩;obtain⟨c0,c1,c2⟩:=hcell.1 _ (F1.1.gr hg1);have hg2:=(hg1.alloc (.cells #[.int .u64 ((Tm.fb i:Nat):Int),.int .i64 ((Tm.fl i:Nat):Int),.int .i64 ((Tm.fw i:Nat):Int)] 355));have H2:=Aj (H1.1.gr hg2);have k12:=(Wk.gr (base:=base) (p:=p) hg2 (by have:=K1.1.aX.size;omega));have K2:=Aj k12;have X2:=Aj (Boxed.wk X1.1 k12 XH.symm Ah);clear hg2 k12;have d2:=Boxed.cell X2.1;have hy1:w1.heap.size≠p:=(by have h1:=hg1.size;have h2:=H1.1.lt;omega);have Y2:=Aj (Av w1 (.cells #[.int .u64 ((Tm.fb i:Nat):Int),.int .i64 ((Tm.fl i:Nat):Int),.int .i64 ((Tm.fw i:Nat):Int)] 355));clear hg1))
   have hxp:wx.heap.size≠p:=om;refine⟨K4.1.keeps H1.1.cells,⟨K4.1.aX.mono hB,(Wk.kept K4.1 Z1.1 hxp Ah).trans Z1.1.symm⟩,?_,K1.1.trans K4.1,X4.1,Wk.kept K4.1 Z1.1 hxp Ah⟩;have:=H4.1;rw[Af,←hch.1,Af]at this;rw[oL,List.flatMap_singleton];exact this
  case done=>
   rintro D W hD ⟨hw1,hk1,hb1,-⟩ hK;have H1:=Aj hw1;have K1:=Aj hk1;clear hw1 hk1 hb1;go_wp2;refine⟨sm,.inl ⟨_,_,rfl,CU hK,?_⟩⟩;have hgo:W.grownBy (W.putObj D (.deferred none)) (some D):=Bd W D _;refine⟨_,results_tmp rfl _ _ _,rfl,?_,K1.1.more hgo om (fun r e=>by cases e;omega)⟩;rw[henc.1,←Af];exact H1.1.apart hgo (fun r e=>by cases e;exact⟨_,hK,rfl⟩)
  case stop=>
   rintro D c pre W _ _ h _;exact h.elim
end
end Go.Proofs.YtjcpmfphnodaaaaGreatDoor
