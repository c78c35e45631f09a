/- Part 1. -/
import Derived.Test.YtjcpmfphnodaaaaGreatDoorRows
import Derived.WalkSpells
import Derived.WalkLawsBesides
import Derived.Deep.AppendLies
import Derived.Lib.SlBytesConst
namespace Go.Proofs.YtjcpmfphnodaaaaGreatDoor
set_option maxRecDepth 100000
set_option maxHeartbeats 0
section
open Go.RowKit
theorem om {p:Prop} (h:p:=by omega):p:=h
theorem sm {p:Prop} (h:p:=by simp):p:=h
theorem Ah {p:Prop} (h:p:=by decide):p:=h
theorem kr {p:Prop} (h:p:=by kernel_rfl):p:=h
theorem Ai {n:Nat}:n≤n:=Nat.le_refl n
theorem Ge.{u}:type_of% @Array.getElem?_eq_some_iff.{u}:= @Array.getElem?_eq_some_iff
theorem La.{u}:type_of% @List.length_append.{u}:= @List.length_append
theorem Oj.{u}:type_of% @Option.some.inj.{u}:= @Option.some.inj
theorem Ae:type_of% @Below.refl:= @Below.refl
theorem Af.{u}:type_of% @List.append_assoc.{u}:= @List.append_assoc
theorem Lt:type_of% @Nat.le_trans:= @Nat.le_trans
theorem Lc.{u}:type_of% @List.length_cons.{u}:= @List.length_cons
theorem Ts.{u}:type_of% @List.take_succ_eq_append_getElem.{u}:= @List.take_succ_eq_append_getElem
theorem Ga:type_of% @World.grownBy_alloc:= @World.grownBy_alloc
theorem Co:type_of% @cell_of_row:= @cell_of_row
theorem Fr:type_of% @frozen_of_row:= @frozen_of_row
theorem Ag:type_of% @heap_setCell_same:= @heap_setCell_same
theorem Nr:type_of% @Nat.le_refl:= @Nat.le_refl
theorem Ng.{u}:type_of% @if_neg.{u}:= @if_neg
theorem Ps0.{u}:type_of% @if_pos.{u}:= @if_pos
theorem Oa:type_of% @World.ownsRow.alloc:= @World.ownsRow.alloc
theorem jY:type_of% @List.take_of_length_le:= @List.take_of_length_le
theorem l8:type_of% @List.getElem?_eq_getElem:= @List.getElem?_eq_getElem
theorem fu:type_of% @List.length_map:= @List.length_map
theorem ic:type_of% @List.getElem_mem:= @List.getElem_mem
theorem jB:type_of% @Nat.lt_of_lt_of_le:= @Nat.lt_of_lt_of_le
theorem dM:type_of% @List.mem_map:= @List.mem_map
theorem vg:type_of% @List.eq_nil_of_length_eq_zero:= @List.eq_nil_of_length_eq_zero
theorem jX:type_of% @List.length_drop:= @List.length_drop
theorem lQ:type_of% @List.length_take:= @List.length_take
theorem iM:type_of% @List.mem_cons:= @List.mem_cons
theorem ku:type_of% @List.getD_eq_getElem?_getD:= @List.getD_eq_getElem?_getD
theorem bE:type_of% @Nat.zero_le:= @Nat.zero_le
theorem dY:type_of% @List.map_append:= @List.map_append
theorem cB:type_of% @Nat.zero_add:= @Nat.zero_add
theorem kH:type_of% @List.getElem?_eq_some_iff:= @List.getElem?_eq_some_iff
theorem jC:type_of% @List.take_append_drop:= @List.take_append_drop
theorem iF:type_of% @List.mem_singleton:= @List.mem_singleton
theorem gV:type_of% @Option.some.injEq:= @Option.some.injEq
theorem j5:type_of% @Nat.pow_le_pow_right:= @Nat.pow_le_pow_right
theorem jM:type_of% @List.mem_cons_self:= @List.mem_cons_self
theorem oN:type_of% @List.drop_eq_getElem_cons:= @List.drop_eq_getElem_cons
theorem lV:type_of% @List.mem_iff_getElem:= @List.mem_iff_getElem
theorem gM:type_of% @Nat.add_assoc:= @Nat.add_assoc
theorem jA:type_of% @Nat.mod_eq_of_lt:= @Nat.mod_eq_of_lt
theorem jl:type_of% @List.mem_append:= @List.mem_append
theorem nS:type_of% @List.mem_cons_of_mem:= @List.mem_cons_of_mem
theorem lS:type_of% @Int.toNat_natCast:= @Int.toNat_natCast
theorem sP:type_of% @List.getElem_append_left:= @List.getElem_append_left
theorem oL:type_of% @List.drop_eq_nil_of_le:= @List.drop_eq_nil_of_le
theorem nz:type_of% @Nat.eq_zero_or_pos:= @Nat.eq_zero_or_pos
theorem zC:type_of% @Array.getElem?_setIfInBounds:= @Array.getElem?_setIfInBounds
theorem oJ:type_of% @List.length_pos_iff:= @List.length_pos_iff
theorem oV:type_of% @List.flatMap_append:= @List.flatMap_append
theorem kM:type_of% @List.mem_flatMap:= @List.mem_flatMap
theorem ay:type_of% @Prod.mk.injEq:= @Prod.mk.injEq
theorem Al:type_of% @List.setIfInBounds_toArray:= @List.setIfInBounds_toArray
theorem Ao:type_of% @List.set_cons_succ:= @List.set_cons_succ
theorem Ap:type_of% @List.set_cons_zero:= @List.set_cons_zero
theorem Aq:type_of% @List.flatMap_cons:= @List.flatMap_cons
theorem Au:type_of% @Go.World.cell?_alloc_mark:= @Go.World.cell?_alloc_mark
theorem Av:type_of% @Go.heap_alloc_new:= @Go.heap_alloc_new
theorem Aw:type_of% @Go.RowKit.Below.heap_alloc:= @Go.RowKit.Below.heap_alloc
theorem Ay:type_of% @List.nil_append:= @List.nil_append
theorem Az:type_of% @decide_eq_false:= @decide_eq_false
theorem AA:type_of% @List.map_cons:= @List.map_cons
theorem AB:type_of% @List.length_nil:= @List.length_nil
theorem AF:type_of% @Go.RowKit.Below.heap_setCell:= @Go.RowKit.Below.heap_setCell
theorem AJ:type_of% @Go.World.cell?_alloc_lt:= @Go.World.cell?_alloc_lt
theorem AL:type_of% @Go.World.cell?_of_block:= @Go.World.cell?_of_block
theorem AO:type_of% @Go.World.size_alloc:= @Go.World.size_alloc
theorem AQ:type_of% @Go.bodyPost_ret:= @Go.bodyPost_ret
theorem AR:type_of% @Go.World.block_lt_of_cell?:= @Go.World.block_lt_of_cell?
theorem AU:type_of% @List.cons_append:= @List.cons_append
theorem AV:type_of% @Go.IntKind.wrap_i64:= @Go.IntKind.wrap_i64
theorem AX:type_of% @Go.info_parts:= @Go.info_parts
theorem AY:type_of% @Go.World.ownsRow_nil:= @Go.World.ownsRow_nil
theorem AZ:type_of% @List.append_nil:= @List.append_nil
theorem Ba:type_of% @Prod.ext:= @Prod.ext
theorem Bb:type_of% @Go.IntKind.wrap_u64:= @Go.IntKind.wrap_u64
theorem Bc:type_of% @decide_eq_true:= @decide_eq_true
theorem Bd:type_of% @Go.callsIn_wide:= @Go.callsIn_wide
theorem Bg:type_of% @List.map_map:= @List.map_map
theorem Bh:type_of% @Go.World.cell?_setCell_other:= @Go.World.cell?_setCell_other
theorem Bi:type_of% @and_true:= @and_true
theorem Bj:type_of% @List.sum_cons:= @List.sum_cons
theorem Bl:type_of% @Go.wpIn_wide:= @Go.wpIn_wide
theorem Bn:type_of% @Nat.add_sub_cancel:= @Nat.add_sub_cancel
theorem Bo:type_of% @List.pairwise_cons:= @List.pairwise_cons
theorem Bp:type_of% @Nat.xor_lt_two_pow:= @Nat.xor_lt_two_pow
theorem Bq:type_of% @List.getElem?_append_right:= @List.getElem?_append_right
theorem Bu:type_of% @List.take_succ_cons:= @List.take_succ_cons
theorem Bv:type_of% @List.drop_succ_cons:= @List.drop_succ_cons
theorem Bw:type_of% @not_true_eq_false:= @not_true_eq_false
theorem Bz:type_of% @List.getElem_cons_succ:= @List.getElem_cons_succ
theorem BC:type_of% @List.getElem?_eq_none:= @List.getElem?_eq_none
theorem BH:type_of% @Nat.shiftLeft_eq:= @Nat.shiftLeft_eq
theorem BI:type_of% @Go.results_none:= @Go.results_none
theorem BJ:type_of% @Nat.shiftRight_eq_div_pow:= @Nat.shiftRight_eq_div_pow
theorem BM:type_of% @List.pairwise_iff_getElem:= @List.pairwise_iff_getElem
theorem BN:type_of% @List.pairwise_append:= @List.pairwise_append
theorem BO:type_of% @List.drop_zero:= @List.drop_zero
theorem BP:type_of% @Go.Addr.mk.injEq:= @Go.Addr.mk.injEq
theorem BQ:type_of% @Nat.pow_succ:= @Nat.pow_succ
theorem BV:type_of% @Bool.and_eq_true:= @Bool.and_eq_true
theorem BZ:type_of% @List.map_congr_left:= @List.map_congr_left
theorem Ca:type_of% @List.size_toArray:= @List.size_toArray
theorem Cb:type_of% @List.getElem?_map:= @List.getElem?_map
theorem Cc:type_of% @List.flatten_cons:= @List.flatten_cons
theorem Ce:type_of% @Int.eq_ofNat_of_zero_le:= @Int.eq_ofNat_of_zero_le
theorem Cf:type_of% @Nat.xor_assoc:= @Nat.xor_assoc
theorem Cg:type_of% @Array.replicate_succ:= @Array.replicate_succ
theorem Ch:type_of% @Array.replicate_zero:= @Array.replicate_zero
theorem Ci:type_of% @Go.World.ownsRow.frozenAt:= @Go.World.ownsRow.frozenAt
theorem Cj:type_of% @Classical.byContradiction:= @Classical.byContradiction
theorem Cm:type_of% @List.append_toArray:= @List.append_toArray
theorem Cq:type_of% @List.length_range:= @List.length_range
theorem Cr:type_of% @UInt8.toNat_ofNat':= @UInt8.toNat_ofNat'
theorem Ct:type_of% @Nat.mul_le_mul_right:= @Nat.mul_le_mul_right
theorem Cu:type_of% @Go.World.ownsRow.cellAt:= @Go.World.ownsRow.cellAt
theorem Cv:type_of% @Nat.mod_two_eq_zero_or_one:= @Nat.mod_two_eq_zero_or_one
theorem Cx:type_of% @List.getElem_cons_zero:= @List.getElem_cons_zero
theorem Cy:type_of% @Option.map_eq_some_iff:= @Option.map_eq_some_iff
theorem Cz:type_of% @List.push_toArray:= @List.push_toArray
theorem CB:type_of% @Bool.eq_false_iff:= @Bool.eq_false_iff
theorem CJ:type_of% @List.getElem?_append_left:= @List.getElem?_append_left
theorem CQ:type_of% @Go.World.grownBy.refl:= @Go.World.grownBy.refl
theorem CR:type_of% @List.flatMap_nil:= @List.flatMap_nil
theorem CU:type_of% @decide_eq_true_iff:= @decide_eq_true_iff
theorem CV:type_of% @Nat.mul_one:= @Nat.mul_one
theorem CW:type_of% @List.drop_left:= @List.drop_left
theorem CY:type_of% @List.sum_append:= @List.sum_append
theorem CZ:type_of% @Nat.sub_self:= @Nat.sub_self
theorem Da:type_of% @Nat.add_zero:= @Nat.add_zero
theorem Dc:type_of% @Nat.testBit_eq_decide_div_mod_eq:= @Nat.testBit_eq_decide_div_mod_eq
theorem Df:type_of% @List.all_eq_true:= @List.all_eq_true
theorem Dh:type_of% @List.length_singleton:= @List.length_singleton
theorem Dj:type_of% @Array.getElem?_modify:= @Array.getElem?_modify
theorem Dk:type_of% @List.concat_eq_append:= @List.concat_eq_append
theorem Dl:type_of% @Array.getElem?_toList:= @Array.getElem?_toList
theorem Dm:type_of% @Nat.mul_comm:= @Nat.mul_comm
theorem Dn:type_of% @Go.Obj.cells.injEq:= @Go.Obj.cells.injEq
theorem Dp:type_of% @List.length_zip:= @List.length_zip
theorem Dq:type_of% @List.getElem_drop:= @List.getElem_drop
theorem Dr:type_of% @Nat.lt_trichotomy:= @Nat.lt_trichotomy
theorem Dt:type_of% @of_decide_eq_true:= @of_decide_eq_true
theorem Du:type_of% @List.cons.inj:= @List.cons.inj
theorem Dv:type_of% @List.take_left:= @List.take_left
theorem Dx:type_of% @if_false:= @if_false
theorem Dy:type_of% @List.ext_getElem:= @List.ext_getElem
theorem Dz:type_of% @List.take_zero:= @List.take_zero
theorem DC:type_of% @Nat.lt_of_le_of_lt:= @Nat.lt_of_le_of_lt
theorem DD:type_of% @Nat.lt_or_ge:= @Nat.lt_or_ge
theorem DF:type_of% @Nat.lt_or_eq_of_le:= @Nat.lt_or_eq_of_le
theorem DI:type_of% @List.length_replicate:= @List.length_replicate
theorem DJ:type_of% @Go.World.ownsRow.stored:= @Go.World.ownsRow.stored
theorem DK:type_of% @List.drop_drop:= @List.drop_drop
theorem DL:type_of% @Nat.xor_self:= @Nat.xor_self
theorem DR:type_of% @List.flatMap_map:= @List.flatMap_map
theorem DT:type_of% @List.getElem_zip:= @List.getElem_zip
theorem DU:type_of% @Nat.lt_irrefl:= @Nat.lt_irrefl
theorem DV:type_of% @Option.map_some:= @Option.map_some
theorem DW:type_of% @List.mem_filter:= @List.mem_filter
end
open _root_.Go.Proofs.Tryz
section
section
open Go.RowKit
theorem fP {k} {a b} (h:a=b):Ending.returned (.int k a)= .returned (.int k b):=by rw[h]
theorem kF {a b} (h:a=b):Ending.returned (.bool a)= .returned (.bool b):=by rw[h]
structure Kept (p:Prop):Prop where
 out:p
theorem Aj {p:Prop} (h:p):Kept p:=⟨h⟩
theorem hide {p} (h:p):Hid p:=h
theorem add_plain (b off k):(⟨b,off,none⟩:Addr).add k=⟨b,off+k,none⟩:=by
 unfold Addr.add;split
 ·next h=>subst h;rfl
 ·rfl
theorem dH {B} {w w1} (h:Below B w.drew w1):Below B w w1:=((Ae B w).drew).trans h
theorem below_drewN {B} {a w} (h:Below B a w) (n):Below B a (w.drewN n):=⟨h.os,h.tape,h.output,h.size,h.block⟩
def Rd (w:World) (B sz:Nat) (A:Option Addr) (n c:Nat) (xs:List Value):Prop:=
 n≤c∧c≤maxLen∧xs.length=n*sz∧(0<n→∃b off,A=some ⟨b,off,none⟩∧b<B∧∀i u,xs[i]? =some u→w.cell? ⟨b,off+i,none⟩=some u)
section
variable {w w':World} {B B' sz n c:Nat} {A:Option Addr} {xs:List Value}
theorem Rd.nil (w) (B sz c) (A) (hc:c≤maxLen):Rd w B sz A 0 c []:=⟨bE _,hc,sm,fun h=>absurd h om⟩
theorem Rd.keep (h:Rd w B sz A n c xs) (hk:∀b o,b<B→w'.cell? ⟨b,o,none⟩=w.cell? ⟨b,o,none⟩) (hB:B≤B'):Rd w' B' sz A n c xs:=
 ⟨h.1,h.2.1,h.2.2.1,fun hn=>by
  obtain⟨b,off,e,hb,hc⟩:=h.2.2.2 hn;exact⟨b,off,e,om,fun i u hu=>(hk _ _ hb).trans (hc i u hu)⟩⟩
theorem Rd.more (h:Rd w B sz A n c xs) (hB:B≤B'):Rd w B' sz A n c xs:=h.keep (fun _ _ _=>rfl) hB
theorem Rd.below (h:Rd w B sz A n c xs) (hb:Below B w w'):Rd w' B sz A n c xs:=h.keep (fun b o hp=>hb.cell (p:=⟨b,o,none⟩) hp) Ai
theorem Rd.alloc (h:Rd w B sz A n c xs) (hB:B≤w.heap.size) (o):Rd (w.alloc o) B sz A n c xs:=h.keep (fun b k hp=>AJ w o ⟨b,k,none⟩ (by show b<_;omega)) Ai
theorem Rd.drew (h:Rd w B sz A n c xs):Rd w.drew B sz A n c xs:=h
theorem Rd.setCell (h:Rd w B sz A n c xs) {p} (hB:B≤p.block) (u):Rd (w.setCell p u) B sz A n c xs:=
 h.keep (fun b k hp=>Bh w p ⟨b,k,none⟩ u (fun e=>by subst e;simp at hB;omega)) Ai
theorem Rd.grown (h:Rd w B sz A n c xs) {row} (hg:w.grownBy w' row) (hB:B≤w.heap.size) (hr:∀g,row=some g→B≤g):Rd w' B sz A n c xs:=
 h.keep (fun b k hp=>AL (hg.block b om (fun e=>by have:=hr _ e.symm;omega))) Ai
theorem Rd.drop (h:Rd w B sz A n c xs) {k} (hk:k≤n):
  Rd w B sz (if c=k then A else A.map (·.add (k*sz))) (n-k) (c-k) (xs.drop (k*sz)):=by
 refine⟨by have:=h.1;omega,by have:=h.2.1;omega,by rw[jX,h.2.2.1,Nat.sub_mul],fun hn=>?_⟩;obtain⟨b,off,rfl,hb,hcell⟩:=h.2.2.2 om;have:=h.1;rw[Ng om];refine⟨b,off+k*sz,by simp[add_plain],hb,fun i u hu=>?_⟩;rw[gM];exact hcell _ u (by rw[←hu,List.getElem?_drop])
theorem Rd.take (h:Rd w B sz A n c xs) {k} (hk:k≤n):Rd w B sz A k c (xs.take (k*sz)):=by
 refine⟨by have:=h.1;omega,h.2.1,?_,fun hn=>?_⟩
 ·rw[lQ,h.2.2.1];exact Nat.min_eq_left (Ct _ hk)
 ·obtain⟨b,off,e,hb,hcell⟩:=h.2.2.2 om;refine⟨b,off,e,hb,fun i u hu=>hcell i u ?_⟩;rw[List.getElem?_take]at hu;split at hu
  ·exact hu
  ·cases hu
theorem Rd.bP {base} {e} (h:w.ownsRow base e sz (.slice A n c) n xs):Rd w w.heap.size sz A n c xs:=by
 rcases h.2 with⟨hv,hn⟩|⟨g,cap,cur,hv,hb,hg,hnc,hcm,hcs,hx⟩
 ·injection hv with h1 h2 h3
  subst h1;subst h2;subst h3;exact⟨Nr _,by unfold maxLen;omega,h.1,fun hh=>absurd hh om⟩
 ·injection hv with h1 h2 h3
  subst h1;subst h3;refine⟨hnc,hcm,h.1,fun _=>⟨g,0,rfl,(Ge.1 hg).1,fun i u hu=>?_⟩⟩;have:=h.cells (g:=g) rfl i u hu;rwa[add_plain]at this
theorem Rd.at_ {k} (h:Rd w B 1 A n c xs) (hk:k<n):∃b off u,A=some ⟨b,off,none⟩∧b<B∧xs[k]? =some u∧w.cell? ⟨b,off+k,none⟩=some u:=by
 obtain⟨b,off,e,hb,hc⟩:=h.2.2.2 om;have hl:k<xs.length:=by have:=h.2.2.1;omega
 exact⟨b,off,xs[k],e,hb,l8 hl,hc k _ (l8 hl)⟩
end
def ab (A:Option Addr):Option Nat:=A.map (·.block)
theorem gP (A) (n c):(Value.slice A n c).ownBlock=ab A:=by cases A<;>rfl
section
variable {w w':World} {base n c:Nat} {A:Option Addr} {xs:List Value} {e:TypeId} {sz:Nat}
theorem zO {v} (h:w.ownsRow base e sz v n xs):∃A c,v= .slice A n c∧(ab A=none∨∃g,ab A=some g∧base≤g∧g<w.heap.size):=by
 rcases h.2 with⟨rfl,rfl⟩|⟨g,cap,cur,rfl,hb,hg,_⟩
 ·exact⟨none,0,rfl,.inl rfl⟩
 ·exact⟨_,cap,rfl,.inr ⟨g,rfl,hb,(Ge.1 hg).1⟩⟩
theorem ae (h:w.ownsRow base e sz (.slice A n c) n xs):∀g,ab A=some g→base≤g∧g<w.heap.size:=by
 intro g hg;exact h.lt g (by rw[gP];exact hg)
theorem ny (h:w.ownsRow base e sz (.slice A n c) n xs) (hn:0<n):∃g,A=some ⟨g,0,none⟩∧base≤g∧g<w.heap.size:=by
 obtain⟨g,cap,hv,h1,h2⟩:=h.form hn
 injection hv with h3
 exact⟨g,h3,h1,h2⟩
theorem af {row} (h:w.ownsRow base e sz (.slice A n c) n xs) (hg:w.grownBy w' row) (hne:ab A=none∨ab A≠row):w'.ownsRow base e sz (.slice A n c) n xs:=
 h.kept hg (by rw[gP];exact hne)
theorem own_below {B} (h:w.ownsRow base e sz (.slice A n c) n xs) (hb:Below B w w') (hB:∀g,ab A=some g→g<B):w'.ownsRow base e sz (.slice A n c) n xs:=by
 refine⟨h.1,?_⟩;rcases h.2 with hn|⟨g,cap,cur,hv,h1,hg,rest⟩
 ·exact .inl hn
 ·refine .inr ⟨g,cap,cur,hv,h1,?_,rest⟩;rw[hb.block g (hB g (by injection hv with h3;rw[h3];rfl))];exact hg
end
section
variable {P:Program} (w:World)
theorem JM (base) (t ty e) (i) (z) (size bytes) (ht:P.underlying t=some (.slice e)) (hi:P.info? e=some i) (hz:i.zero=some z)
  (hsize:i.size=size) (hby:i.bytes=bytes) (hzs:z.cells.size=size) (hsz:0<size)
  (A) (n c) (xs) (hown:w.ownsRow base e size (.slice A n c) n xs)
  (B) (S) (m d) (news) (hr:Rd w B size S m d news) (h1:∀u∈news,u.oneCell'=true)
  (h63:n+m≤maxLen) (hbytes:(n+m)*bytes≤140737488355328) (hbase:base≤w.heap.size):
  ∃A2 c2 w',(Builtin.append_ #[t,t] ty #[.slice A n c,.slice S m d]).run P w= .ok (.slice A2 (n+m) c2) w'∧
   w'.ownsRow base e size (.slice A2 (n+m) c2) (n+m) (xs++news)∧w.grownBy w' (ab A)∧(ab A2=ab A∨ab A2=some w.heap.size):=by
 have hm0:m=0→news=[]:=fun h=>vg (by rw[hr.2.2.1,h,Nat.zero_mul])
 rcases S with _|ad
 ·have hm:m=0:=by
   rcases nz m with h0|h0
   ·exact h0
   ·obtain⟨b,off,h,_⟩:=hr.2.2.2 h0;cases h
  have hn:=hm0 hm;subst hm;subst hn;refine⟨A,c,w,?_,by simpa using hown,CQ w _,.inl rfl⟩;rcases hown.2 with⟨hv,_⟩|⟨g,cap,cur,hv,_,_,hnc,_⟩
  ·injection hv with h1 h2 h3
   subst h1;subst h2;subst h3;simp[Builtin.append_,run_underlying ht,sizeOf,typeInfo,hi,Builtin.lenOf,Builtin.firstCells]
  ·injection hv with h1 h2 h3
   subst h1;subst h3;simp[Builtin.append_,run_underlying ht,sizeOf,typeInfo,hi,Builtin.lenOf,Builtin.firstCells,hnc,storeCells]
 ·have hcells:∀j u,news[j]? =some u→w.cell? (ad.add j)=some u:=by
   intro j u hu;rcases nz m with h0|h0
   ·rw[hm0 h0]at hu;simp at hu
   ·obtain⟨b,off,h,_,hc⟩:=hr.2.2.2 h0
    injection h with h
    subst h;rw[add_plain];exact hc j u hu
  obtain⟨v',w',hrun,h2,h3,_,h5⟩:=run_append_own_at (P:=P) w base t ty e i z size bytes ht hi hz hsize hby hzs hsz (.slice A n c) n xs hown ad m d news hr.2.2.1 hcells h1 h63 hbytes hbase;obtain⟨A2,c2,rfl,_⟩:=zO h2;rw[gP]at h3;rw[gP,gP]at h5;exact⟨A2,c2,w',hrun,h2,h3,h5⟩
theorem mh {o:Oper} {a} {K} {Q} (s x) (t)
  (ho:o.op= .call {callee:= .builtin .append,args:= #[s,x],argTypes:= #[t,t]})
  (base) (e) (i) (z) (size bytes) (ht:P.underlying t=some (.slice e)) (hi:P.info? e=some i) (hz:i.zero=some z)
  (hsize:i.size=size) (hby:i.bytes=bytes) (hzs:z.cells.size=size) (hsz:0<size)
  (A) (n c) (xs) (hs:a.eval s= .slice A n c) (hown:w.ownsRow base e size (.slice A n c) n xs)
  (B) (S) (m d) (news) (hx:a.eval x= .slice S m d) (hr:Rd w B size S m d news) (h1:∀u∈news,u.oneCell'=true)
  (h63:n+m≤maxLen) (hbytes:(n+m)*bytes≤140737488355328) (hbase:base≤w.heap.size)
  (h:∀A2 c2 w',w'.ownsRow base e size (.slice A2 (n+m) c2) (n+m) (xs++news)→w.grownBy w' (ab A)→(ab A2=ab A∨ab A2=some w.heap.size)→K (a.put o.dst (.slice A2 (n+m) c2)) w'):o.wp P a w K Q:=by
 obtain⟨A2,c2,w',hrun,h2,h3,h4⟩:=JM (P:=P) w base t o.type e i z size bytes ht hi hz hsize hby hzs hsz A n c xs hown B S m d news hr h1 h63 hbytes hbase;unfold Oper.wp execOp;simp only[ho,resolve,invoke,builtin,Sem.run_bind,Sem.run_pure,Result.andThen_ok,List.map_toArray,AA,List.map_nil,hs,hx,hrun];exact h A2 c2 w' h2 h3 h4
theorem bI {ops} {rest} {o} {a} {Q} (hgd:Region.wanted o (yielded ops a.tmps)=true) (s x) (t)
  (ho:o.op= .call {callee:= .builtin .append,args:= #[s,x],argTypes:= #[t,t]})
  (base) (e) (i) (z) (size bytes) (ht:P.underlying t=some (.slice e)) (hi:P.info? e=some i) (hz:i.zero=some z)
  (hsize:i.size=size) (hby:i.bytes=bytes) (hzs:z.cells.size=size) (hsz:0<size)
  (A) (n c) (xs) (hs:a.eval s= .slice A n c) (hown:w.ownsRow base e size (.slice A n c) n xs)
  (B) (S) (m d) (news) (hx:a.eval x= .slice S m d) (hr:Rd w B size S m d news) (h1:∀u∈news,u.oneCell'=true)
  (h63:n+m≤maxLen) (hbytes:(n+m)*bytes≤140737488355328) (hbase:base≤w.heap.size)
  (h:∀A2 c2 w',w'.ownsRow base e size (.slice A2 (n+m) c2) (n+m) (xs++news)→w.grownBy w' (ab A)→(ab A2=ab A∨ab A2=some w.heap.size)→wpList P ops Q rest (a.put o.dst (.slice A2 (n+m) c2)) w'):wpList P ops Q (o::rest) a w:=
 wpList_step fun _ hK=>by
  rw[Ps0 hgd];exact mh w s x t ho base e i z size bytes ht hi hz hsize hby hzs hsz A n c xs hs hown B S m d news hx hr h1 h63 hbytes hbase fun A2 c2 w' h2 h3 h4=>hK _ _ (h A2 c2 w' h2 h3 h4)
end
end
end
section
section
open Go.RowKit
def bv (c:UInt8):Value:= .int .u8 (c.toNat:Int)
def iW (l:List UInt8):List Value:=l.map bv
theorem dO (l):(iW l).length=l.length:=by simp[iW]
theorem Ta (l):∀u∈iW l,u.oneCell'=true:=by
 intro u hu;obtain⟨c,_,rfl⟩:=dM.1 hu
 rfl
theorem jy (a b):iW (a++b)=iW a++iW b:=by simp[iW]
def aN (w:World) (B:Nat) (A:Option Addr) (n c:Nat) (l:List UInt8):Prop:=Rd w B 1 A n c (iW l)
theorem aN.len {w} {B n c} {A} {l} (h:aN w B A n c l):n=l.length:=by have:=h.2.2.1;rw[dO]at this;omega
section
variable {w w':World} {B n c:Nat} {A:Option Addr} {l:List UInt8}
theorem aN.below (h:aN w B A n c l) (hb:Below B w w'):aN w' B A n c l:=Rd.below h hb
theorem aN.more {B'} (h:aN w B A n c l) (hB:B≤B'):aN w B' A n c l:=Rd.more h hB
theorem aN.alloc (h:aN w B A n c l) (hB:B≤w.heap.size) (o):aN (w.alloc o) B A n c l:=Rd.alloc h hB o
theorem aN.drewN (h:aN w B A n c l) (k):aN (w.drewN k) B A n c l:=h
theorem aN.setCell (h:aN w B A n c l) {p} (hB:B≤p.block) (u):aN (w.setCell p u) B A n c l:=Rd.setCell h hB u
theorem aN.grown (h:aN w B A n c l) {row} (hg:w.grownBy w' row) (hB:B≤w.heap.size) (hr:∀g,row=some g→B≤g):aN w' B A n c l:=Rd.grown h hg hB hr
theorem aN.take (h:aN w B A n c l) {k} (hk:k≤n):aN w B A k c (l.take k):=by
 have:=Rd.take (k:=k) h hk;rwa[CV,iW,←List.map_take]at this
theorem aN.drop (h:aN w B A n c l) {k} (hk:k≤n):aN w B (if c=k then A else A.map (·.add k)) (n-k) (c-k) (l.drop k):=by
 have:=Rd.drop (k:=k) h hk;rwa[CV,iW,←List.map_drop]at this
end
theorem aN.at_ {w} {B n c k} {A} {l} (h:aN w B A n c l) (hk:k<l.length):∃b off,A=some ⟨b,off,none⟩∧b<B∧w.cell? ⟨b,off+k,none⟩=some (.int .u8 (l[k].toNat:Int)):=by
 obtain⟨b,off,u,e,hb,hu,hc⟩:=Rd.at_ h (show k<n by rw[h.len];exact hk);refine⟨b,off,e,hb,?_⟩;rw[hc];simp[iW,hk]at hu;rw[←hu];rfl
def ah (w:World) (base:Nat) (A:Option Addr) (n c:Nat) (l:List UInt8):Prop:=w.ownsRow base 5 1 (.slice A n c) n (iW l)
theorem ah.rd {w} {base n c} {A} {l} (h:ah w base A n c l):aN w w.heap.size A n c l:=Rd.bP h
theorem ah.len {w} {base n c} {A} {l} (h:ah w base A n c l):n=l.length:=h.rd.len
theorem JN:(prog.info? 5).map (fun i=>(i.zero,i.size,i.bytes))=some (some (.int .u8 0),1,1):=kr
theorem bR {w} {ops} {rest} {o} {a} {Q} (hgd:Region.wanted o (yielded ops a.tmps)=true) (s x)
  (ho:o.op= .call {callee:= .builtin .append,args:= #[s,x],argTypes:= #[22,22]})
  (base) (A) (n c) (l) (hs:a.eval s= .slice A n c) (hown:ah w base A n c l)
  (B) (S) (m d) (k) (hx:a.eval x= .slice S m d) (hr:aN w B S m d k)
  (hlen:n+m≤140737488355328) (hbase:base≤w.heap.size)
  (h:∀A2 c2 w',ah w' base A2 (n+m) c2 (l++k)→w.grownBy w' (ab A)→(ab A2=ab A∨ab A2=some w.heap.size)→wpList prog ops Q rest (a.put o.dst (.slice A2 (n+m) c2)) w'):wpList prog ops Q (o::rest) a w:=by
 obtain⟨i0,hi0,hz0,hz1,hz2⟩:=AX JN;refine bI w hgd s x _ ho base 5 i0 (.int .u8 0) 1 1 underlying22 hi0 hz0 hz1 hz2 rfl Ah A n c (iW l) hs hown B S m d (iW k) hx hr (Ta k) (by unfold maxLen;omega) om hbase ?_;rw[←jy];exact h
theorem ah.made (w:World) (base) (h:base≤w.heap.size):ah (w.alloc (.cells #[] 5)) base (some ⟨w.heap.size,0,none⟩) 0 0 []:=World.ownsRow_made w #[] 0 h sm rfl
theorem aN.one (w:World) (c):aN (w.alloc (.cells #[.int .u8 (c.toNat:Int)] 5)) (w.heap.size+1) (some ⟨w.heap.size,0,none⟩) 1 1 [c]:=
 ⟨Nr _,by unfold maxLen;omega,rfl,fun _=>⟨_,0,rfl,om,fun i u hu=>by
  match i,hu with
  |0,hu=>
   simp[iW]at hu;subst hu;exact Au w _ _ _ 0⟩⟩
theorem aN.adH (w:World) (l) (fr) (h:l.length≤9223372036854775807):aN (w.alloc (.cells (iW l).toArray 5 fr)) (w.heap.size+1) (some ⟨w.heap.size,0,none⟩) l.length l.length l:=
 ⟨Nr _,by unfold maxLen;omega,by simp[iW],fun _=>⟨_,0,rfl,om,fun i u hu=>by
  rw[cB];exact(Au w _ _ _ i).trans (by simpa using hu)⟩⟩
theorem ah.at_ {w} {base g n c k} {l} (h:ah w base (some ⟨g,0,none⟩) n c l) (hk:k<l.length):
  w.cell? ⟨g,k,none⟩=some (.int .u8 (l[k].toNat:Int))∧w.frozen? ⟨g,k,none⟩=false:=by
 have hn:=h.len;refine⟨?_,Ci h k⟩;rw[Cu h k om];simp[iW,bv,hk]
theorem ah.set {w} {base g n c} {l} (h:ah w base (some ⟨g,0,none⟩) n c l) (k) (x):
  ah (w.setCell ⟨g,k,none⟩ (.int .u8 (x.toNat:Int))) base (some ⟨g,0,none⟩) n c (l.set k x):=by
 have:=DJ h k (.int .u8 (x.toNat:Int));unfold ah;have e:iW (l.set k x)=(iW l).set k (.int .u8 (x.toNat:Int)):=by simp[iW,bv,List.map_set]
 rw[e];exact this.1
theorem ah.pos {w} {base n c} {A} {l} (h:ah w base A n c l) (hn:0<n):∃g,A=some ⟨g,0,none⟩∧base≤g∧g<w.heap.size:=ny h hn
theorem vk (w:World) (C) (n c):(convert 22 22 (.slice (some ⟨w.heap.size,0,none⟩) n c)).run prog (w.alloc (.cells C 5))= .ok (.slice (some ⟨w.heap.size,0,none⟩) n c) (w.alloc (.cells C 5 (C.size,C.size+1))):=
 Lib.run_convert_bytes_const (P:=prog) w 22 5 C n c underlying22 underlying5
theorem bJ (w) (B) (A) (n c) (l) (h:aN w B A n c l):
  (convert 22 9 (.slice A n c)).run prog w= .ok (.string ⟨l.toArray⟩) w:=by
 obtain rfl:=h.len;by_cases hl:l=[]
 ·subst hl;cases A with
  |none=>exact run_convert_bytes_nil (P:=prog) w 22 5 underlying22 underlying5 0 c 9 underlying9
  |some a=>exact run_convert_bytes_back (P:=prog) w 22 9 5 a c [] underlying22 underlying5 underlying9 (fun j hj=>by simp at hj)
 ·have hp:0<l.length:=oJ.2 hl;obtain⟨b,off,rfl,hb,hc⟩:=h.2.2.2 hp;refine run_convert_bytes_back (P:=prog) w 22 9 5 ⟨b,off,none⟩ c l underlying22 underlying5 underlying9 (fun j hj=>?_);rw[add_plain];exact hc j _ (by simp[iW,hj];rfl)
end
end
end Go.Proofs.YtjcpmfphnodaaaaGreatDoor
