/- Part 28. -/
import Derived.Test.YtjcpmfphnodaaaaGreatDoorZTBA
namespace Go.Proofs.YtjcpmfphnodaaaaGreatDoor
set_option maxRecDepth 100000
set_option maxHeartbeats 0
open _root_.Go.Proofs.Tryz
open Go.RowKit Go.Shelf
theorem Rs:(prog.info? 2).map (fun i=>(i.zero,i.size,i.bytes))=some (some (.int .i64 0),1,8):=kr
theorem Rt:(prog.info? 125).map (fun i=>(i.zero,i.size,i.bytes))=some (some (.int .u64 0),1,8):=kr
theorem Lf (n:Nat) (hn:n≤1000000) (w):(Instr.makeSlice 281 (.int .i64 n) (.int .i64 n)).run prog w= .ok (.slice (some ⟨w.heap.size,0,none⟩) n n) (w.alloc (.cells (madeCells #[.int .i64 0] n) 2)):=by
 obtain⟨i0,hi0,hz0,hz1,hz2⟩:=AX Rs;have:=run_makeSlice (P:=prog) w 281 2 i0 (.int .i64 0) underlying281 hi0 hz0 .i64 .i64 (n:Int) (n:Int) om om (by rw[hz1];simp;omega) (by rw[hz2];omega) om;rw[hz1]at this;simpa[Value.cells]using this
theorem Lg (n:Nat) (hn:n≤1000000) (w):(Instr.makeSlice 284 (.int .i64 n) (.int .i64 n)).run prog w= .ok (.slice (some ⟨w.heap.size,0,none⟩) n n) (w.alloc (.cells (madeCells #[.int .u64 0] n) 125)):=by
 obtain⟨i0,hi0,hz0,hz1,hz2⟩:=AX Rt;have:=run_makeSlice (P:=prog) w 284 125 i0 (.int .u64 0) underlying284 hi0 hz0 .i64 .i64 (n:Int) (n:Int) om om (by rw[hz1];simp;omega) (by rw[hz2];omega) om;rw[hz1]at this;simpa[Value.cells]using this
theorem eG.zeros (w:World) (n base) (hn:n≤1000000) (hb:base≤w.heap.size):eG (w.alloc (.cells (madeCells #[.int .i64 0] n) 2)) base (some ⟨w.heap.size,0,none⟩) n n (List.replicate n 0):=by
 obtain⟨i0,hi0,hz0,hz1,hz2⟩:=AX Rs;obtain⟨w',h1,h2,-⟩:=run_make_full (P:=prog) w base 281 2 i0 (.int .i64 0) 1 underlying281 hi0 hz0 hz1 .i64 .i64 n (by rw[hz2];omega) (by unfold maxLen;omega) hb;rw[Lf n hn w]at h1
 injection h1 with _ h1
 subst h1;rw[CV,show(Value.int .i64 0).cells= #[Value.int .i64 0]from rfl,toList_madeCells_one]at h2;have e:yc (List.replicate n 0)=List.replicate n (Value.int .i64 0):=by simp[yc,tv]
 unfold eG;rw[e];exact h2
theorem aG.zeros (w:World) (n base) (hn:n≤1000000) (hb:base≤w.heap.size):aG (w.alloc (.cells (madeCells #[.int .u64 0] n) 125)) base (some ⟨w.heap.size,0,none⟩) n n (List.replicate n 0):=by
 obtain⟨i0,hi0,hz0,hz1,hz2⟩:=AX Rt;obtain⟨w',h1,h2,-⟩:=run_make_full (P:=prog) w base 284 125 i0 (.int .u64 0) 1 underlying284 hi0 hz0 hz1 .i64 .i64 n (by rw[hz2];omega) (by unfold maxLen;omega) hb;rw[Lg n hn w]at h1
 injection h1 with _ h1
 subst h1;rw[CV,show(Value.int .u64 0).cells= #[Value.int .u64 0]from rfl,toList_madeCells_one]at h2;have e:uW (List.replicate n 0)=List.replicate n (Value.int .u64 0):=by simp[uW,uv]
 unfold aG;rw[e];exact h2
def vY {X:Type} (xs:List X) (d:X) (k n:Nat):List X:=xs.take k++List.replicate (n-k) d
theorem uG {X} (xs:List X) (d) (n):vY xs d 0 n=List.replicate n d:=by simp[vY]
theorem Lh {X} (xs:List X) (d) (n) (h:n=xs.length):vY xs d n n=xs:=by subst h;simp[vY]
theorem zy {X:Type} (xs:List X) (d:X) (k n:Nat) (hk:k<n) (h:n=xs.length):(vY xs d k n).set k (xs[k]'om)=vY xs d (k+1) n:=by
 unfold vY;rw[List.set_append_right _ _ (by rw[lQ];omega),lQ,Nat.min_eq_left om,CZ];obtain⟨m,hm⟩:∃m,n-k=m+1:=⟨n-k-1,om⟩
 rw[hm,List.replicate_succ,Ap,Ts (show k<xs.length from om),show n-(k+1)=m from om,Af]
 rfl
theorem gN.ae7 {w} {B n c k} {A} {l} (h:gN w B A n c l) (hB:B≤w.heap.size) (hk:k<l.length):
  ∃b off,A=some ⟨b,off,none⟩∧∀W,Below w.heap.size w W→W.cell? ⟨b,off+k*2,none⟩=some (.int .i64 l[k].1)∧W.cell? ⟨b,off+k*2+1,none⟩=some (.int .u64 (l[k].2:Int)):=by
 obtain⟨b,off,e,hb,h1,h2⟩:=h.at_ hk;exact⟨b,off,e,fun W hW=>⟨(hW.cell (p:=⟨b,_,none⟩) (by show b<_;omega)).trans h1,(hW.cell (p:=⟨b,_,none⟩) (by show b<_;omega)).trans (by rw[gM];exact h2)⟩⟩
theorem Rv (a b c) (w):(Instr.field 290 (.agg #[a,b,c]) 1).run prog w= .ok b w:=kr
theorem abJ (a b c) (w):(Instr.field 290 (.agg #[a,b,c]) 2).run prog w= .ok c w:=kr
theorem qh {w:World} {b1 b2 sz n c} {A} {xs} {e} (h:w.ownsRow b1 e sz (.slice A n c) n xs) (hb:b2≤b1):w.ownsRow b2 e sz (.slice A n c) n xs:=
 ⟨h.1,h.2.imp id fun⟨g,cap,cur,h1,h2,h3⟩=>⟨g,cap,cur,h1,om,h3⟩⟩
structure Gl (w:World):Prop where
 frm:qc w
 dbj:vW w
 tab:eD w
 Z6:2<w.heap.size
theorem Gl.below {w w'} (h:Gl w) (hb:Below w.heap.size w w'):Gl w':=⟨h.frm.below hb,h.dbj.aU hb h.Z6,h.tab.below hb,jB h.Z6 hb.size⟩
theorem FV (A) (n c B) (l:Cs.gz) (w) (hv:gN w B A n c l) (hB:B≤w.heap.size) (hin:Cs.In l) (h1:1≤n) (h2:n≤120) (hG:Gl w):
  Calls prog 140 #[.slice A n c] w fun e w'=>∃A2 n2 c2,e= .returned (.tuple #[.slice A2 n2 c2,.int .i64 0])∧ah w' w.heap.size A2 n2 c2 (Ck.enc l)∧Below w.heap.size w w':=by
 have hlc:=hv.1;have hcm:=hv.2.1;unfold maxLen at hcm;have Hv:=Aj hv;have hn:=Aj hv.len;have HI:=Aj hin;have HG:=Aj hG;have m1:=fun W=>Lf n om W
 have m2:=fun W=>Lg n om W
 have z1:((n:Int)==0)=false:=by simp;omega
 have z2:¬(120:Int)< (n:Int):=om;clear hv hin hG;go_enter func140,ntmps140;go_upto_region 6 with fail;go_cut [5,6] (fun t v W=>∃gt gv:Nat,t= .slice (some ⟨gt,0,none⟩) n n∧v= .slice (some ⟨gv,0,none⟩) n n∧gt≠gv∧eG W w.heap.size (some ⟨gt,0,none⟩) n n (List.replicate n 0)∧aG W w.heap.size (some ⟨gv,0,none⟩) n n (List.replicate n 0)∧Below w.heap.size w W)
 case first=>
  go_region
  ·go_wp2_with fail;go_meet;refine⟨w.heap.size,w.heap.size+1,rfl,rfl,om,Oa (eG.zeros w n _ om Ai) _,?_,(((Ae _ w).alloc Ai _).alloc sm _).drew⟩;have:=aG.zeros (w.alloc (.cells (madeCells #[.int .i64 0] n) 2)) n w.heap.size om sm;have FW:=this;rw[show(w.alloc (.cells (madeCells #[Value.int .i64 0] n) 2)).heap.size=w.heap.size+1 from sm]at FW;exact FW
  ·go_wp2_with fail;go_meet;refine⟨w.heap.size+1,w.heap.size,rfl,rfl,om,?_,Oa (aG.zeros w n _ om Ai) _,(((Ae _ w).alloc Ai _).alloc sm _).drew⟩;have:=eG.zeros (w.alloc (.cells (madeCells #[.int .u64 0] n) 125)) n w.heap.size om sm;have FW:=this;rw[show(w.alloc (.cells (madeCells #[Value.int .u64 0] n) 125)).heap.size=w.heap.size+1 from sm]at FW;exact FW
 case rest=>
  rename World=>wc
  obtain⟨gt,gv,rfl,rfl,hne,oT,oU,hb⟩:=hcut;have OT:=Aj oT;have OU:=Aj oU;have HB:=Aj hb;clear m1 m2 oT oU hb z1 z2;go_wp2;go_loopw [27] (fun i wr=>∃k:Nat,k≤n∧i= .int .i64 k∧eG wr w.heap.size (some ⟨gt,0,none⟩) n n (vY (l.map (·.1)) 0 k n)∧aG wr w.heap.size (some ⟨gv,0,none⟩) n n (vY (l.map (·.2)) 0 k n)∧Below w.heap.size w wr) (fun i _=>n-(intOf i).toNat)
  case atStart=>exact⟨0,om,rfl,by rw[uG];exact OT.1,by rw[uG];exact OU.1,HB.1⟩
  case round=>
   clear OT OU HB;obtain⟨k,hk,rfl,oT,oU,hb⟩:=hrel;by_cases hlt:k<n
   ·have hkl:k<l.length:=by rw[←hn.1];exact hlt
    obtain⟨b,off,rfl,hc⟩:=gN.ae7 Hv.1 hB hkl;obtain⟨c0,c1⟩:=hc wr hb;have fT:=zy (l.map (·.1)) 0 k n hlt (by rw[fu];exact hn.1);have fU:=zy (l.map (·.2)) 0 k n hlt (by rw[fu];exact hn.1);rw[List.getElem_map]at fT fU;have lT:k< (vY (l.map (·.1)) 0 k n).length:=by rw[←oT.len];exact hlt
    have lU:k< (vY (l.map (·.2)) 0 k n).length:=by rw[←oU.len];exact hlt
    have FT:=Aj fT;have FU:=Aj fU;have lX:=Aj hb;have gtl:=(ae oT gt rfl).2;have gvl:=(ae oU gv rfl).2;have hz:=hb.size;have OT:=Aj oT;have OU:=Aj oU;have ZS:=Aj (by decide:True);clear hc fT fU;generalize l[k]=x at*;go_upto_region 10 with fail;have oT1:eG (wr.alloc (.cells #[.int .i64 x.1,.int .u64 (x.2:Int)] 127)) w.heap.size (some ⟨gt,0,none⟩) n n (vY (l.map (·.1)) 0 k n):=Oa oT _;have oU1:aG (wr.alloc (.cells #[.int .i64 x.1,.int .u64 (x.2:Int)] 127)) w.heap.size (some ⟨gv,0,none⟩) n n (vY (l.map (·.2)) 0 k n):=Oa oU _;have hb1:=hb.alloc hz (.cells #[.int .i64 x.1,.int .u64 (x.2:Int)] 127);have hrow:=Av wr (.cells #[.int .i64 x.1,.int .u64 (x.2:Int)] 127);have t0:=Co _ _ 0 _ _ _ hrow;have t1:=Co _ _ 1 _ _ _ hrow;have gbl:gt≠wr.heap.size∧gv≠wr.heap.size:=⟨om,om⟩
    clear oT oU hb c0 c1 hrow;generalize wr.alloc (.cells #[.int .i64 x.1,.int .u64 (x.2:Int)] 127)=wa at*;generalize wr.heap.size=gb at*;obtain⟨a0,a1⟩:=oT1.at_ lT;obtain⟨b0,b1⟩:=oU1.at_ lU;have OT1:=Aj oT1;have OU1:=Aj oU1;have HB1:=Aj hb1;generalize (vY (l.map (·.1)) 0 k n)[k]=va at a0;generalize (vY (l.map (·.2)) 0 k n)[k]=vb at b0;clear oT1 oU1 hb1 lT lU;go_region;have abM:=av wa ⟨gt,k,none⟩ (.int .i64 x.1);have abN:=av (wa.setCell ⟨gt,k,none⟩ (.int .i64 x.1)) ⟨gv,k,none⟩ (.int .u64 (x.2:Int));have TF:eG ((wa.setCell ⟨gt,k,none⟩ (.int .i64 x.1)).setCell ⟨gv,k,none⟩ (.int .u64 (x.2:Int))) w.heap.size (some ⟨gt,0,none⟩) n n (vY (l.map (·.1)) 0 (k+1) n):=by
     have h1:=OT1.1.set k x.1;rw[FT.1]at h1;exact af h1 abN (.inr (fun e=>hne (Oj e)))
    have UF:aG ((wa.setCell ⟨gt,k,none⟩ (.int .i64 x.1)).setCell ⟨gv,k,none⟩ (.int .u64 (x.2:Int))) w.heap.size (some ⟨gv,0,none⟩) n n (vY (l.map (·.2)) 0 (k+1) n):=by
     have h1:aG (wa.setCell ⟨gt,k,none⟩ (.int .i64 x.1)) w.heap.size (some ⟨gv,0,none⟩) n n (vY (l.map (·.2)) 0 k n):=af OU1.1 abM (.inr (fun e=>hne (Oj e).symm));have h2:=h1.set k x.2;rw[FU.1]at h2;exact h2
    have BF:Below w.heap.size w ((wa.setCell ⟨gt,k,none⟩ (.int .i64 x.1)).setCell ⟨gv,k,none⟩ (.int .u64 (x.2:Int))):=(HB1.1.setCell (ae OT1.1 gt rfl).1 _).setCell (ae OU1.1 gv rfl).1 _;have KTF:=Aj TF;have KUF:=Aj UF;have KBF:=Aj BF;clear abM abN TF UF BF;go_wp2;go_roundw
    case rel=>exact⟨k+1,om,by go_num,KTF.1,KUF.1,KBF.1.drew⟩
    case measure=>simp[intOf];omega
   ·obtain rfl:k=n:=by omega
    rw[Lh _ _ k (by rw[fu];exact hn.1)]at oT oU;have RT:=Aj oT.rd;have RU:=Aj oU.rd;have HB2:=Aj hb;have oH:=hb.size;have GW:Gl wr:=by
     have h1:=hb.mono Ai;exact HG.1.below h1
    have hxs:∀y∈l.map (·.2),y<2^64:=fun y hy=>by
     obtain⟨q,hq,rfl⟩:=dM.1 hy;exact(HI.1 q hq).2
    have hts:∀y∈l.map (·.1),Tm.In y:=fun y hy=>by
     obtain⟨q,hq,rfl⟩:=dM.1 hy;exact(HI.1 q hq).1
    have hdk:(Di.dZ (l.map (·.2))).length≤128:=by
     have h1:=Ck.Il (l.map (·.2));have h2:=hn.1;rw[fu]at h1;omega
    have CH:=uF (some ⟨gv,0,none⟩) k k wr.heap.size (l.map (·.2)) wr RU.1 Ai hxs om GW.dbj GW.Z6;have htr:=Ck.sU (l.map (·.2));have hcb:Kept (Ck.enc l=Ck.pk ((((([]:List Bool)++Bt.bw 8 (Ck.choose (l.map (·.2))))++Bt.bw 8 (k-1))++Tm.enc (l.map (·.1)))++Ck.vals (Ck.choose (l.map (·.2))) (l.map (·.2)))):=⟨by
     unfold Ck.enc Ck.cb;rw[←hn.1];simp only[Ay,Af]⟩
    have SX:(Tm.enc (l.map (·.1))).length≤100000:=by
     have h1:=Ck.WA (l.map (·.1));have h2:=hn.1;rw[fu]at h1;omega
    have PT:Kept (∀(w1:World) (bs:List Bool) (W:World),Below wr.heap.size wr w1→bs.length≤1000→eZ W w1.heap.size w1.heap.size bs→Below w1.heap.size w1 W→Calls prog 192 #[.pointer (some ⟨w1.heap.size,0,none⟩),.slice (some ⟨gt,0,none⟩) k k] W fun e w'=>e= .returned (.int .i64 0)∧eZ w' w1.heap.size w1.heap.size (bs++Tm.enc (l.map (·.1)))∧Below w1.heap.size w1 w'):=⟨fun w1 bs W hb1 hl hw hbW=>by
     have hc:=hb1.trans (hbW.mono hb1.size);exact(Rh _ _ wr.heap.size bs _ k k (l.map (·.1)) W hw (RT.1.below hc) hb1.size (GW.below hc).frm (jB GW.frm.lt hb1.size) hts om om).mono fun _ _ q=>⟨q.1,q.2.1,hbW.trans q.2.2.aU⟩⟩
    have PV:Kept (∀(w1:World) (bs:List Bool) (W:World),Below wr.heap.size wr w1→bs.length≤200000→eZ W w1.heap.size w1.heap.size bs→Below w1.heap.size w1 W→Calls prog (if Ck.choose (l.map (·.2))=1 then 216 else if Ck.choose (l.map (·.2))=2 then 219 else 222) #[.pointer (some ⟨w1.heap.size,0,none⟩),.slice (some ⟨gv,0,none⟩) k k] W fun e w'=>e= .returned (.int .i64 0)∧eZ w' w1.heap.size w1.heap.size (bs++Ck.vals (Ck.choose (l.map (·.2))) (l.map (·.2)))∧Below w1.heap.size w1 w'):=⟨fun w1 bs W hb1 hl hw hbW=>by
     have hc:=hb1.trans (hbW.mono hb1.size);unfold Ck.vals;split
     ·exact(Rn _ _ wr.heap.size bs _ k k _ W hw (RU.1.below hc) hb1.size hxs om om (GW.below hc).dbj (jB GW.Z6 hb1.size)).mono fun _ _ q=>⟨q.1,q.2.1,hbW.trans q.2.2.aU⟩
     ·split
      ·exact(Ri _ _ wr.heap.size bs _ k k _ W hw (RU.1.below hc) hb1.size hxs om om).mono fun _ _ q=>⟨q.1,q.2.1,hbW.trans q.2.2.aU⟩
      ·exact(Rq _ _ wr.heap.size bs _ k k _ W hw (RU.1.below hc) hb1.size hxs hdk om om).mono fun _ _ q=>⟨q.1,q.2.1,hbW.trans q.2.2.aU⟩⟩
    have hvl:(Ck.vals (Ck.choose (l.map (·.2))) (l.map (·.2))).length≤100000:=by
     have h1:=Ck.Ka (l.map (·.2));have h2:=Ck.WE (l.map (·.2));have h3:=hn.1;rw[fu]at h2;omega
    have BW:Kept (∀(w1:World) (x:Nat) (bs:List Bool) (W:World),x<1000→bs.length≤1000→eZ W w1.heap.size w1.heap.size bs→Below w1.heap.size w1 W→Calls prog 191 #[.pointer (some ⟨w1.heap.size,0,none⟩),.int .u64 (x:Int),.int .i64 8] W fun e w'=>e= .returned (.int .i64 0)∧eZ w' w1.heap.size w1.heap.size (bs++Bt.bw 8 x)∧Below w1.heap.size w1 w'):=⟨fun w1 x bs W hx hl hw hbW=>(bZ _ _ x 8 bs W hw om om om).mono fun _ _ q=>⟨q.1,q.2.1,hbW.trans q.2.2.aU⟩⟩
    have Z7:=Aj CH;have hkm:(k:Int)-1=((k-1:Nat):Int):=om;have YM:IntKind.u64.wrap ((k-1:Nat):Int)=((k-1:Nat):Int):=by rw[Bb];omega
    have EC:=Aj (fun W=>iU W);unfold Ro Nl at EC;generalize Ck.choose (l.map (·.2))=tag at*;generalize Ck.vals tag (l.map (·.2))=vb at*;generalize Tm.enc (l.map (·.1))=tb at*;clear CH GW hxs hts hdk oT oU hb;have h3:tag=1∨tag=2∨tag=3:=om;rcases h3 with rfl|rfl|rfl
    ·have Xc:Kept (Calls prog 181 #[.slice (some ⟨gv,0,none⟩) k k] wr fun r w'=>r= .returned (.int .i64 1)∧Below wr.heap.size wr w'):=⟨Z7.1⟩
     have BW1:Kept (∀(w1 W:World),eZ W w1.heap.size w1.heap.size []→Below w1.heap.size w1 W→Calls prog 191 #[.pointer (some ⟨w1.heap.size,0,none⟩),.int .u64 1,.int .i64 8] W fun e w'=>e= .returned (.int .i64 0)∧eZ w' w1.heap.size w1.heap.size ([]++Bt.bw 8 1)∧Below w1.heap.size w1 w'):=⟨fun w1 W h1 h2=>BW.1 w1 1 [] W om sm h1 h2⟩
     have PV1:Kept (∀(w1:World) (bs:List Bool) (W:World),Below wr.heap.size wr w1→bs.length≤200000→eZ W w1.heap.size w1.heap.size bs→Below w1.heap.size w1 W→Calls prog 216 #[.pointer (some ⟨w1.heap.size,0,none⟩),.slice (some ⟨gv,0,none⟩) k k] W fun e w'=>e= .returned (.int .i64 0)∧eZ w' w1.heap.size w1.heap.size (bs++vb)∧Below w1.heap.size w1 w'):=⟨PV.1⟩
     have ix:=fun W=>YJ W
     have fl:=fun W=>Rv (.func (.func 215) #[] #[]) (.func (.func 216) #[] #[]) (.func (.func 217) #[] #[]) W
     clear Z7 PV;go_wp2_with (first
      |(go_at_call 193;refine(mZ _ _ _ w7 S7.1 (by have:=hvl;have:=SX;simp only[La,Bt.ak,AB];omega)).mono ?_;rintro e w8 ⟨A8,n8,c8,rfl,h1,h2⟩;have O8:=Aj h1;have B8:=Aj h2;clear h1 h2)
      |(go_at_call 216;refine(PV1.1 w1 _ w6 B1.1 (by have:=SX;simp only[La,Bt.ak,AB];omega) (S5.1.aU B6.1) (B5.1.trans (B6.1.mono B5.1.size))).mono ?_;rintro e w7 ⟨rfl,h1,h2⟩;have S7:=Aj h1;have B7:=Aj h2;clear h1 h2)
      |(go_at_call 179;refine(EC.1 w5).mono ?_;rintro e w6 ⟨rfl,h1⟩;have B6:=Aj h1;clear h1)
      |(go_at_call 192;refine(PT.1 w1 _ w4 B1.1 (by simp only[La,Bt.ak,AB];omega) S4.1 B4.1).mono ?_;rintro e w5 ⟨rfl,h1,h2⟩;have S5:=Aj h1;have B5:=Aj h2;clear h1 h2)
      |(go_at_call 191;refine(BW.1 w1 (k-1) _ w3 om (by simp only[La,Bt.ak,AB];omega) S3.1 B3.1).mono ?_;rintro e w4 ⟨rfl,h1,h2⟩;have S4:=Aj h1;have B4:=Aj h2;clear h1 h2)
      |(go_at_call 191;refine(BW1.1 w1 w2 S2.1 B2.1).mono ?_;rintro e w3 ⟨rfl,h1,h2⟩;have S3:=Aj h1;have B3:=Aj h2;clear h1 h2)
      |(go_at_call 190;refine(iT w1).mono ?_;rintro e w2 ⟨rfl,h1,h2⟩;have S2:=Aj h1;have B2:=Aj h2;clear h1 h2)
      |(go_at_call 181;refine Xc.1.mono ?_;rintro e w1 ⟨rfl,h1⟩;have B1:=Aj h1;clear h1 Xc))
     go_ret2;have z1:=HB2.1.size;have z2:=B1.1.size;have z3:=B7.1.size;refine⟨A8,n8,c8,rfl,?_,((HB2.1.trans (B1.1.mono z1)).trans (B7.1.mono om)).trans (B8.1.mono om)⟩;rw[hcb.1];exact qh O8.1 om
    ·have Xc:Kept (Calls prog 181 #[.slice (some ⟨gv,0,none⟩) k k] wr fun r w'=>r= .returned (.int .i64 2)∧Below wr.heap.size wr w'):=⟨Z7.1⟩
     have BW1:Kept (∀(w1 W:World),eZ W w1.heap.size w1.heap.size []→Below w1.heap.size w1 W→Calls prog 191 #[.pointer (some ⟨w1.heap.size,0,none⟩),.int .u64 2,.int .i64 8] W fun e w'=>e= .returned (.int .i64 0)∧eZ w' w1.heap.size w1.heap.size ([]++Bt.bw 8 2)∧Below w1.heap.size w1 w'):=⟨fun w1 W h1 h2=>BW.1 w1 2 [] W om sm h1 h2⟩
     have PV1:Kept (∀(w1:World) (bs:List Bool) (W:World),Below wr.heap.size wr w1→bs.length≤200000→eZ W w1.heap.size w1.heap.size bs→Below w1.heap.size w1 W→Calls prog 219 #[.pointer (some ⟨w1.heap.size,0,none⟩),.slice (some ⟨gv,0,none⟩) k k] W fun e w'=>e= .returned (.int .i64 0)∧eZ w' w1.heap.size w1.heap.size (bs++vb)∧Below w1.heap.size w1 w'):=⟨PV.1⟩
     have ix:=fun W=>YK W
     have fl:=fun W=>Rv (.func (.func 218) #[] #[]) (.func (.func 219) #[] #[]) (.func (.func 220) #[] #[]) W
     clear Z7 PV;go_wp2_with (first
      |(go_at_call 193;refine(mZ _ _ _ w7 S7.1 (by have:=hvl;have:=SX;simp only[La,Bt.ak,AB];omega)).mono ?_;rintro e w8 ⟨A8,n8,c8,rfl,h1,h2⟩;have O8:=Aj h1;have B8:=Aj h2;clear h1 h2)
      |(go_at_call 219;refine(PV1.1 w1 _ w6 B1.1 (by have:=SX;simp only[La,Bt.ak,AB];omega) (S5.1.aU B6.1) (B5.1.trans (B6.1.mono B5.1.size))).mono ?_;rintro e w7 ⟨rfl,h1,h2⟩;have S7:=Aj h1;have B7:=Aj h2;clear h1 h2)
      |(go_at_call 179;refine(EC.1 w5).mono ?_;rintro e w6 ⟨rfl,h1⟩;have B6:=Aj h1;clear h1)
      |(go_at_call 192;refine(PT.1 w1 _ w4 B1.1 (by simp only[La,Bt.ak,AB];omega) S4.1 B4.1).mono ?_;rintro e w5 ⟨rfl,h1,h2⟩;have S5:=Aj h1;have B5:=Aj h2;clear h1 h2)
      |(go_at_call 191;refine(BW.1 w1 (k-1) _ w3 om (by simp only[La,Bt.ak,AB];omega) S3.1 B3.1).mono ?_;rintro e w4 ⟨rfl,h1,h2⟩;have S4:=Aj h1;have B4:=Aj h2;clear h1 h2)
      |(go_at_call 191;refine(BW1.1 w1 w2 S2.1 B2.1).mono ?_;rintro e w3 ⟨rfl,h1,h2⟩;have S3:=Aj h1;have B3:=Aj h2;clear h1 h2)
      |(go_at_call 190;refine(iT w1).mono ?_;rintro e w2 ⟨rfl,h1,h2⟩;have S2:=Aj h1;have B2:=Aj h2;clear h1 h2)
      |(go_at_call 181;refine Xc.1.mono ?_;rintro e w1 ⟨rfl,h1⟩;have B1:=Aj h1;clear h1 Xc))
     go_ret2;have z1:=HB2.1.size;have z2:=B1.1.size;have z3:=B7.1.size;refine⟨A8,n8,c8,rfl,?_,((HB2.1.trans (B1.1.mono z1)).trans (B7.1.mono om)).trans (B8.1.mono om)⟩;rw[hcb.1];exact qh O8.1 om
    ·have Xc:Kept (Calls prog 181 #[.slice (some ⟨gv,0,none⟩) k k] wr fun r w'=>r= .returned (.int .i64 3)∧Below wr.heap.size wr w'):=⟨Z7.1⟩
     have BW1:Kept (∀(w1 W:World),eZ W w1.heap.size w1.heap.size []→Below w1.heap.size w1 W→Calls prog 191 #[.pointer (some ⟨w1.heap.size,0,none⟩),.int .u64 3,.int .i64 8] W fun e w'=>e= .returned (.int .i64 0)∧eZ w' w1.heap.size w1.heap.size ([]++Bt.bw 8 3)∧Below w1.heap.size w1 w'):=⟨fun w1 W h1 h2=>BW.1 w1 3 [] W om sm h1 h2⟩
     have PV1:Kept (∀(w1:World) (bs:List Bool) (W:World),Below wr.heap.size wr w1→bs.length≤200000→eZ W w1.heap.size w1.heap.size bs→Below w1.heap.size w1 W→Calls prog 222 #[.pointer (some ⟨w1.heap.size,0,none⟩),.slice (some ⟨gv,0,none⟩) k k] W fun e w'=>e= .returned (.int .i64 0)∧eZ w' w1.heap.size w1.heap.size (bs++vb)∧Below w1.heap.size w1 w'):=⟨PV.1⟩
     have ix:=fun W=>YL W
     have fl:=fun W=>Rv (.func (.func 221) #[] #[]) (.func (.func 222) #[] #[]) (.func (.func 223) #[] #[]) W
     clear Z7 PV;go_wp2_with (first
      |(go_at_call 193;refine(mZ _ _ _ w7 S7.1 (by have:=hvl;have:=SX;simp only[La,Bt.ak,AB];omega)).mono ?_;rintro e w8 ⟨A8,n8,c8,rfl,h1,h2⟩;have O8:=Aj h1;have B8:=Aj h2;clear h1 h2)
      |(go_at_call 222;refine(PV1.1 w1 _ w6 B1.1 (by have:=SX;simp only[La,Bt.ak,AB];omega) (S5.1.aU B6.1) (B5.1.trans (B6.1.mono B5.1.size))).mono ?_;rintro e w7 ⟨rfl,h1,h2⟩;have S7:=Aj h1;have B7:=Aj h2;clear h1 h2)
      |(go_at_call 179;refine(EC.1 w5).mono ?_;rintro e w6 ⟨rfl,h1⟩;have B6:=Aj h1;clear h1)
      |(go_at_call 192;refine(PT.1 w1 _ w4 B1.1 (by simp only[La,Bt.ak,AB];omega) S4.1 B4.1).mono ?_;rintro e w5 ⟨rfl,h1,h2⟩;have S5:=Aj h1;have B5:=Aj h2;clear h1 h2)
      |(go_at_call 191;refine(BW.1 w1 (k-1) _ w3 om (by simp only[La,Bt.ak,AB];omega) S3.1 B3.1).mono ?_;rintro e w4 ⟨rfl,h1,h2⟩;have S4:=Aj h1;have B4:=Aj h2;clear h1 h2)
      |(go_at_call 191;refine(BW1.1 w1 w2 S2.1 B2.1).mono ?_;rintro e w3 ⟨rfl,h1,h2⟩;have S3:=Aj h1;have B3:=Aj h2;clear h1 h2)
      |(go_at_call 190;refine(iT w1).mono ?_;rintro e w2 ⟨rfl,h1,h2⟩;have S2:=Aj h1;have B2:=Aj h2;clear h1 h2)
      |(go_at_call 181;refine Xc.1.mono ?_;rintro e w1 ⟨rfl,h1⟩;have B1:=Aj h1;clear h1 Xc))
     go_ret2;have z1:=HB2.1.size;have z2:=B1.1.size;have z3:=B7.1.size;refine⟨A8,n8,c8,rfl,?_,((HB2.1.trans (B1.1.mono z1)).trans (B7.1.mono om)).trans (B8.1.mono om)⟩;rw[hcb.1];exact qh O8.1 om
end Go.Proofs.YtjcpmfphnodaaaaGreatDoor
