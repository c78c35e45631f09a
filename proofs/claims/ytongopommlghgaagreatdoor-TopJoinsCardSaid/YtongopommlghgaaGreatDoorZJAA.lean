/- Part 1. -/
import Derived.Test.YtongopommlghgaaGreatDoorRows
import Derived.WalkSpells
import Derived.WalkLawsBesides
import Derived.Deep.AppendLies
import Derived.Lib.SlBytesConst
import Derived.RangeFuncNested
import Derived.RangeFuncBound
import Derived.Shelf.Abstract
import Derived.OwnWalkIn
import Derived.TacticsInMore
import Derived.LoopNIn
import Derived.LoopIn
import Derived.Deep.CutBlock
import Derived.BigQuiet
import Derived.Deep.RegionWith
import Derived.Deep.DeepCutAuto
namespace Go.Proofs.YtongopommlghgaaGreatDoor
set_option maxRecDepth 100000
set_option maxHeartbeats 0
section
open Go.RowKit
theorem om {p:Prop} (h:p:=by omega):p:=h
theorem Ah {p:Prop} (h:p:=by simp):p:=h
theorem Ai {p:Prop} (h:p:=by decide):p:=h
theorem kr {p:Prop} (h:p:=by kernel_rfl):p:=h
theorem Aj {n:Nat}:n≤n:=Nat.le_refl n
theorem Ge.{u}:type_of% @Array.getElem?_eq_some_iff.{u}:= @Array.getElem?_eq_some_iff
theorem La.{u}:type_of% @List.length_append.{u}:= @List.length_append
theorem Oj.{u}:type_of% @Option.some.inj.{u}:= @Option.some.inj
theorem Ae:type_of% @Below.refl:= @Below.refl
theorem Af.{u}:type_of% @List.append_assoc.{u}:= @List.append_assoc
theorem Lt:type_of% @Nat.le_trans:= @Nat.le_trans
theorem Lc.{u}:type_of% @List.length_cons.{u}:= @List.length_cons
theorem Ts.{u}:type_of% @List.take_succ_eq_append_getElem.{u}:= @List.take_succ_eq_append_getElem
theorem Ga:type_of% @World.grownBy_alloc:= @World.grownBy_alloc
theorem Co:type_of% @cell_of_row:= @cell_of_row
theorem Fr:type_of% @frozen_of_row:= @frozen_of_row
theorem Ag:type_of% @heap_setCell_same:= @heap_setCell_same
theorem Nr:type_of% @Nat.le_refl:= @Nat.le_refl
theorem Ng.{u}:type_of% @if_neg.{u}:= @if_neg
theorem Ps0.{u}:type_of% @if_pos.{u}:= @if_pos
theorem Oa:type_of% @World.ownsRow.alloc:= @World.ownsRow.alloc
theorem jc:type_of% @List.take_of_length_le:= @List.take_of_length_le
theorem kC:type_of% @List.getElem?_eq_getElem:= @List.getElem?_eq_getElem
theorem fM:type_of% @List.length_map:= @List.length_map
theorem dR:type_of% @List.getElem_mem:= @List.getElem_mem
theorem jE:type_of% @Nat.lt_of_lt_of_le:= @Nat.lt_of_lt_of_le
theorem dV:type_of% @List.mem_map:= @List.mem_map
theorem qU:type_of% @List.eq_nil_of_length_eq_zero:= @List.eq_nil_of_length_eq_zero
theorem kz:type_of% @List.length_drop:= @List.length_drop
theorem jD:type_of% @List.length_take:= @List.length_take
theorem iW:type_of% @List.mem_cons:= @List.mem_cons
theorem jN:type_of% @List.getD_eq_getElem?_getD:= @List.getD_eq_getElem?_getD
theorem bf:type_of% @Nat.zero_le:= @Nat.zero_le
theorem dN:type_of% @List.map_append:= @List.map_append
theorem bO:type_of% @Nat.zero_add:= @Nat.zero_add
theorem l5:type_of% @List.getElem?_eq_some_iff:= @List.getElem?_eq_some_iff
theorem je:type_of% @List.take_append_drop:= @List.take_append_drop
theorem iP:type_of% @List.mem_singleton:= @List.mem_singleton
theorem gU:type_of% @Option.some.injEq:= @Option.some.injEq
theorem kF:type_of% @Nat.pow_le_pow_right:= @Nat.pow_le_pow_right
theorem jO:type_of% @List.mem_cons_self:= @List.mem_cons_self
theorem oQ:type_of% @List.drop_eq_getElem_cons:= @List.drop_eq_getElem_cons
theorem iC:type_of% @List.mem_iff_getElem:= @List.mem_iff_getElem
theorem iw:type_of% @Nat.add_assoc:= @Nat.add_assoc
theorem kG:type_of% @Nat.mod_eq_of_lt:= @Nat.mod_eq_of_lt
theorem gY:type_of% @List.mem_append:= @List.mem_append
theorem nU:type_of% @List.mem_cons_of_mem:= @List.mem_cons_of_mem
theorem lZ:type_of% @Int.toNat_natCast:= @Int.toNat_natCast
theorem pF:type_of% @List.getElem_append_left:= @List.getElem_append_left
theorem qW:type_of% @List.drop_eq_nil_of_le:= @List.drop_eq_nil_of_le
theorem lY:type_of% @Nat.eq_zero_or_pos:= @Nat.eq_zero_or_pos
theorem zM:type_of% @Array.getElem?_setIfInBounds:= @Array.getElem?_setIfInBounds
theorem mH:type_of% @List.length_pos_iff:= @List.length_pos_iff
theorem nH:type_of% @List.flatMap_append:= @List.flatMap_append
theorem l6:type_of% @List.mem_flatMap:= @List.mem_flatMap
theorem aA:type_of% @Prod.mk.injEq:= @Prod.mk.injEq
end
theorem Ao:type_of% @List.setIfInBounds_toArray:= @List.setIfInBounds_toArray
theorem Ap:type_of% @List.set_cons_succ:= @List.set_cons_succ
theorem Aq:type_of% @Go.World.cell?_alloc_mark:= @Go.World.cell?_alloc_mark
theorem Au:type_of% @List.set_cons_zero:= @List.set_cons_zero
theorem Av:type_of% @List.flatMap_cons:= @List.flatMap_cons
theorem Aw:type_of% @Go.heap_alloc_new:= @Go.heap_alloc_new
theorem Ay:type_of% @Go.RowKit.Below.heap_alloc:= @Go.RowKit.Below.heap_alloc
theorem Az:type_of% @Go.Calls.quiet_of_same:= @Go.Calls.quiet_of_same
theorem AA:type_of% @decide_eq_false:= @decide_eq_false
theorem AB:type_of% @List.nil_append:= @List.nil_append
theorem AF:type_of% @List.pairwise_iff_getElem:= @List.pairwise_iff_getElem
theorem AJ:type_of% @List.map_cons:= @List.map_cons
theorem AL:type_of% @Go.World.alloc_heap_new:= @Go.World.alloc_heap_new
theorem AO:type_of% @Go.World.cell?_setCell_other:= @Go.World.cell?_setCell_other
theorem AQ:type_of% @Go.RowKit.Below.heap_setCell:= @Go.RowKit.Below.heap_setCell
theorem AR:type_of% @Go.World.cell?_alloc_lt:= @Go.World.cell?_alloc_lt
theorem AU:type_of% @Go.World.cell?_of_block:= @Go.World.cell?_of_block
theorem AV:type_of% @Go.World.size_alloc:= @Go.World.size_alloc
theorem AX:type_of% @Go.World.ownsRow.frozenAt:= @Go.World.ownsRow.frozenAt
theorem AY:type_of% @Go.info_parts:= @Go.info_parts
theorem AZ:type_of% @Go.IntKind.wrap_i64:= @Go.IntKind.wrap_i64
theorem Ba:type_of% @List.length_nil:= @List.length_nil
theorem Bb:type_of% @Go.World.ownsRow_nil:= @Go.World.ownsRow_nil
theorem Bc:type_of% @List.cons_append:= @List.cons_append
theorem Bd:type_of% @Go.World.block_lt_of_cell?:= @Go.World.block_lt_of_cell?
theorem Bg:type_of% @Go.bodyPost_ret:= @Go.bodyPost_ret
theorem Bh:type_of% @List.append_nil:= @List.append_nil
theorem Bj:type_of% @Nat.add_sub_cancel:= @Nat.add_sub_cancel
theorem Bl:type_of% @Nat.mul_le_mul_right:= @Nat.mul_le_mul_right
theorem Bn:type_of% @Go.grownBy_putObj':= @Go.grownBy_putObj'
theorem Bo:type_of% @Go.Boxed.new:= @Go.Boxed.new
theorem Bp:type_of% @List.getElem?_append_right:= @List.getElem?_append_right
theorem Bq:type_of% @Go.World.ownsRow.cellAt:= @Go.World.ownsRow.cellAt
theorem Bu:type_of% @Go.callsIn_wide:= @Go.callsIn_wide
theorem Bv:type_of% @List.sum_cons:= @List.sum_cons
theorem Bw:type_of% @Go.IntKind.wrap_u64:= @Go.IntKind.wrap_u64
theorem Bz:type_of% @not_true_eq_false:= @not_true_eq_false
theorem BC:type_of% @Prod.ext:= @Prod.ext
theorem BH:type_of% @List.pairwise_cons:= @List.pairwise_cons
theorem BI:type_of% @decide_eq_true:= @decide_eq_true
theorem BJ:type_of% @Go.World.ownsRow.stored:= @Go.World.ownsRow.stored
theorem BM:type_of% @Go.wpIn_wide:= @Go.wpIn_wide
theorem BN:type_of% @Nat.xor_lt_two_pow:= @Nat.xor_lt_two_pow
theorem BO:type_of% @and_true:= @and_true
theorem BP:type_of% @List.drop_succ_cons:= @List.drop_succ_cons
theorem BQ:type_of% @List.map_map:= @List.map_map
theorem BR:type_of% @Go.Proofs.enters_of:= @Go.Proofs.enters_of
theorem BZ:type_of% @List.pairwise_append:= @List.pairwise_append
theorem Ca:type_of% @List.getElem?_eq_none:= @List.getElem?_eq_none
theorem Cb:type_of% @List.take_succ_cons:= @List.take_succ_cons
theorem Cc:type_of% @Nat.shiftLeft_eq:= @Nat.shiftLeft_eq
theorem Ce:type_of% @Go.Addr.mk.injEq:= @Go.Addr.mk.injEq
theorem Cf:type_of% @Go.World.putObj_heap_other:= @Go.World.putObj_heap_other
theorem Cg:type_of% @List.flatten_cons:= @List.flatten_cons
theorem Ch:type_of% @Nat.shiftRight_eq_div_pow:= @Nat.shiftRight_eq_div_pow
theorem Ci:type_of% @Go.World.grownBy.refl:= @Go.World.grownBy.refl
theorem Cj:type_of% @List.getElem_cons_succ:= @List.getElem_cons_succ
theorem Cm:type_of% @Go.results_none:= @Go.results_none
theorem Cq:type_of% @List.size_toArray:= @List.size_toArray
theorem Cr:type_of% @Int.eq_ofNat_of_zero_le:= @Int.eq_ofNat_of_zero_le
theorem Ct:type_of% @List.drop_zero:= @List.drop_zero
theorem Cv:type_of% @Array.replicate_succ:= @Array.replicate_succ
theorem Cx:type_of% @Array.replicate_zero:= @Array.replicate_zero
theorem Cy:type_of% @Nat.lt_or_ge:= @Nat.lt_or_ge
theorem Cz:type_of% @List.getElem?_append_left:= @List.getElem?_append_left
theorem CB:type_of% @Go.KeepsOthers.setCell:= @Go.KeepsOthers.setCell
theorem CG:type_of% @Go.callsIn_of_wp_marks:= @Go.callsIn_of_wp_marks
theorem CJ:type_of% @List.append_toArray:= @List.append_toArray
theorem CR:type_of% @List.length_range:= @List.length_range
theorem CV:type_of% @Go.run_takeDeferred:= @Go.run_takeDeferred
theorem CW:type_of% @List.ext_getElem:= @List.ext_getElem
theorem CY:type_of% @Nat.pow_succ:= @Nat.pow_succ
theorem CZ:type_of% @Nat.mod_two_eq_zero_or_one:= @Nat.mod_two_eq_zero_or_one
theorem C9:type_of% @Go.KeepsOthers.of_grownBy:= @Go.KeepsOthers.of_grownBy
theorem Da:type_of% @List.push_toArray:= @List.push_toArray
theorem Dc:type_of% @List.getElem_drop:= @List.getElem_drop
theorem Df:type_of% @List.getElem?_map:= @List.getElem?_map
theorem Dh:type_of% @Bool.eq_false_iff:= @Bool.eq_false_iff
theorem Dj:type_of% @Nat.lt_trichotomy:= @Nat.lt_trichotomy
theorem Dk:type_of% @List.getElem_append_right:= @List.getElem_append_right
theorem Dl:type_of% @Classical.byContradiction:= @Classical.byContradiction
theorem Dm:type_of% @List.flatMap_nil:= @List.flatMap_nil
theorem Dp:type_of% @Nat.mul_one:= @Nat.mul_one
theorem Dq:type_of% @Nat.xor_assoc:= @Nat.xor_assoc
theorem Dr:type_of% @List.drop_left:= @List.drop_left
theorem Dt:type_of% @List.getElem?_set_ne:= @List.getElem?_set_ne
theorem Dv:type_of% @if_false:= @if_false
theorem Dx:type_of% @List.sum_append:= @List.sum_append
theorem Dy:type_of% @List.map_congr_left:= @List.map_congr_left
theorem Dz:type_of% @Nat.sub_self:= @Nat.sub_self
theorem DC:type_of% @Option.map_eq_some_iff:= @Option.map_eq_some_iff
theorem DD:type_of% @Nat.add_zero:= @Nat.add_zero
theorem DF:type_of% @List.getElem?_set_self:= @List.getElem?_set_self
theorem DI:type_of% @List.getElem_cons_zero:= @List.getElem_cons_zero
theorem DJ:type_of% @Nat.testBit_eq_decide_div_mod_eq:= @Nat.testBit_eq_decide_div_mod_eq
theorem DK:type_of% @Bool.and_eq_true:= @Bool.and_eq_true
theorem DL:type_of% @List.getElem_map:= @List.getElem_map
theorem DR:type_of% @UInt8.toNat_ofNat':= @UInt8.toNat_ofNat'
theorem DT:type_of% @List.length_singleton:= @List.length_singleton
theorem DU:type_of% @Array.getElem?_modify:= @Array.getElem?_modify
theorem DV:type_of% @List.concat_eq_append:= @List.concat_eq_append
theorem DW:type_of% @Array.getElem?_toList:= @Array.getElem?_toList
theorem DX:type_of% @Nat.add_mul:= @Nat.add_mul
theorem DY:type_of% @Go.Obj.cells.injEq:= @Go.Obj.cells.injEq
theorem DZ:type_of% @List.length_zip:= @List.length_zip
theorem Ea:type_of% @List.pairwise_map:= @List.pairwise_map
theorem Eb:type_of% @Go.run_makeSlice:= @Go.run_makeSlice
theorem Ed:type_of% @List.cons.inj:= @List.cons.inj
theorem Ee:type_of% @Go.run_underlying:= @Go.run_underlying
theorem Ef:type_of% @List.all_eq_true:= @List.all_eq_true
theorem Eg:type_of% @List.take_zero:= @List.take_zero
theorem Ei:type_of% @List.drop_of_length_le:= @List.drop_of_length_le
theorem Ej:type_of% @Nat.mul_comm:= @Nat.mul_comm
theorem El:type_of% @Nat.lt_of_le_of_lt:= @Nat.lt_of_le_of_lt
theorem Em:type_of% @decide_eq_true_iff:= @decide_eq_true_iff
theorem Eo:type_of% @of_decide_eq_false:= @of_decide_eq_false
theorem Ep:type_of% @List.length_replicate:= @List.length_replicate
theorem Er:type_of% @List.getElem?_toArray:= @List.getElem?_toArray
theorem Et:type_of% @Nat.lt_irrefl:= @Nat.lt_irrefl
theorem Eu:type_of% @Go.KeepsOthers.alloc:= @Go.KeepsOthers.alloc
theorem Ev:type_of% @List.ext_getElem?:= @List.ext_getElem?
theorem Ew:type_of% @of_decide_eq_true:= @of_decide_eq_true
theorem Ex:type_of% @List.map_set:= @List.map_set
theorem Ey:type_of% @Nat.xor_self:= @Nat.xor_self
theorem Ez:type_of% @List.flatMap_map:= @List.flatMap_map
theorem EB:type_of% @List.getElem_zip:= @List.getElem_zip
theorem ED:type_of% @List.flatten_append:= @List.flatten_append
theorem EE:type_of% @Nat.mul_assoc:= @Nat.mul_assoc
theorem EF:type_of% @Option.map_some:= @Option.map_some
theorem EH:type_of% @List.mem_filter:= @List.mem_filter
open _root_.Go.Proofs.Tryz
section
section
open Go.RowKit
theorem gF {k a b} (h:a=b):Ending.returned (.int k a)= .returned (.int k b):=by rw[h]
theorem kE {a b} (h:a=b):Ending.returned (.bool a)= .returned (.bool b):=by rw[h]
structure Kept (p:Prop):Prop where
 out:p
theorem Al {p:Prop} (h:p):Kept p:=⟨h⟩
theorem hide {p} (h:p):Hid p:=h
theorem add_plain (b off k):(⟨b,off,none⟩:Addr).add k=⟨b,off+k,none⟩:=by
 unfold Addr.add;split
 ·next h=>subst h;rfl
 ·rfl
theorem dJ {B w w1} (h:Below B w.drew w1):Below B w w1:=((Ae B w).drew).trans h
theorem below_drewN {B a w} (h:Below B a w) (n):Below B a (w.drewN n):=⟨h.os,h.tape,h.output,h.size,h.block⟩
def Rd (w:World) (B sz:Nat) (A:Option Addr) (n c:Nat) (xs:List Value):Prop:=
 n≤c∧c≤maxLen∧xs.length=n*sz∧(0<n→∃b off,A=some ⟨b,off,none⟩∧b<B∧∀i u,xs[i]? =some u→w.cell? ⟨b,off+i,none⟩=some u)
section
variable {w w':World} {B B' sz n c:Nat} {A:Option Addr} {xs:List Value}
theorem Rd.nil (w B sz c A) (hc:c≤maxLen):Rd w B sz A 0 c []:=⟨bf _,hc,Ah,fun h=>absurd h om⟩
theorem Rd.keep (h:Rd w B sz A n c xs) (hk:∀b o,b<B→w'.cell? ⟨b,o,none⟩=w.cell? ⟨b,o,none⟩) (hB:B≤B'):Rd w' B' sz A n c xs:=
 ⟨h.1,h.2.1,h.2.2.1,fun hn=>by
  obtain⟨b,off,e,hb,hc⟩:=h.2.2.2 hn;exact⟨b,off,e,om,fun i u hu=>(hk _ _ hb).trans (hc i u hu)⟩⟩
theorem Rd.more (h:Rd w B sz A n c xs) (hB:B≤B'):Rd w B' sz A n c xs:=h.keep (fun _ _ _=>rfl) hB
theorem Rd.below (h:Rd w B sz A n c xs) (hb:Below B w w'):Rd w' B sz A n c xs:=h.keep (fun b o hp=>hb.cell (p:=⟨b,o,none⟩) hp) Aj
theorem Rd.alloc (h:Rd w B sz A n c xs) (hB:B≤w.heap.size) (o):Rd (w.alloc o) B sz A n c xs:=h.keep (fun b k hp=>AR w o ⟨b,k,none⟩ (by show b<_;omega)) Aj
theorem Rd.drew (h:Rd w B sz A n c xs):Rd w.drew B sz A n c xs:=h
theorem Rd.setCell (h:Rd w B sz A n c xs) {p} (hB:B≤p.block) (u):Rd (w.setCell p u) B sz A n c xs:=
 h.keep (fun b k hp=>AO w p ⟨b,k,none⟩ u (fun e=>by subst e;simp at hB;omega)) Aj
theorem Rd.grown (h:Rd w B sz A n c xs) {row} (hg:w.grownBy w' row) (hB:B≤w.heap.size) (hr:∀g,row=some g→B≤g):Rd w' B sz A n c xs:=
 h.keep (fun b k hp=>AU (hg.block b om (fun e=>by have:=hr _ e.symm;omega))) Aj
theorem Rd.drop (h:Rd w B sz A n c xs) {k} (hk:k≤n):
  Rd w B sz (if c=k then A else A.map (·.add (k*sz))) (n-k) (c-k) (xs.drop (k*sz)):=by
 refine⟨by have:=h.1;omega,by have:=h.2.1;omega,by rw[kz,h.2.2.1,Nat.sub_mul],fun hn=>?_⟩;obtain⟨b,off,rfl,hb,hcell⟩:=h.2.2.2 om;have:=h.1;rw[Ng om];refine⟨b,off+k*sz,by simp[add_plain],hb,fun i u hu=>?_⟩;rw[iw];exact hcell _ u (by rw[←hu,List.getElem?_drop])
theorem Rd.take (h:Rd w B sz A n c xs) {k} (hk:k≤n):Rd w B sz A k c (xs.take (k*sz)):=by
 refine⟨by have:=h.1;omega,h.2.1,?_,fun hn=>?_⟩
 ·rw[jD,h.2.2.1];exact Nat.min_eq_left (Bl _ hk)
 ·obtain⟨b,off,e,hb,hcell⟩:=h.2.2.2 om;refine⟨b,off,e,hb,fun i u hu=>hcell i u ?_⟩;rw[List.getElem?_take]at hu;split at hu
  ·exact hu
  ·cases hu
theorem Rd.bz {base e} (h:w.ownsRow base e sz (.slice A n c) n xs):Rd w w.heap.size sz A n c xs:=by
 rcases h.2 with⟨hv,hn⟩|⟨g,cap,cur,hv,hb,hg,hnc,hcm,hcs,hx⟩
 ·injection hv with h1 h2 h3
  subst h1;subst h2;subst h3;exact⟨Nr _,by unfold maxLen;omega,h.1,fun hh=>absurd hh om⟩
 ·injection hv with h1 h2 h3
  subst h1;subst h3;refine⟨hnc,hcm,h.1,fun _=>⟨g,0,rfl,(Ge.1 hg).1,fun i u hu=>?_⟩⟩;have:=h.cells (g:=g) rfl i u hu;rwa[add_plain]at this
theorem Rd.at_ {k} (h:Rd w B 1 A n c xs) (hk:k<n):∃b off u,A=some ⟨b,off,none⟩∧b<B∧xs[k]? =some u∧w.cell? ⟨b,off+k,none⟩=some u:=by
 obtain⟨b,off,e,hb,hc⟩:=h.2.2.2 om;have hl:k<xs.length:=by have:=h.2.2.1;omega
 exact⟨b,off,xs[k],e,hb,kC hl,hc k _ (kC hl)⟩
end
def ab (A:Option Addr):Option Nat:=A.map (·.block)
theorem ic (A n c):(Value.slice A n c).ownBlock=ab A:=by cases A<;>rfl
section
variable {w w':World} {base n c:Nat} {A:Option Addr} {xs:List Value} {e:TypeId} {sz:Nat}
theorem EK {v} (h:w.ownsRow base e sz v n xs):∃A c,v= .slice A n c∧(ab A=none∨∃g,ab A=some g∧base≤g∧g<w.heap.size):=by
 rcases h.2 with⟨rfl,rfl⟩|⟨g,cap,cur,rfl,hb,hg,_⟩
 ·exact⟨none,0,rfl,.inl rfl⟩
 ·exact⟨_,cap,rfl,.inr ⟨g,rfl,hb,(Ge.1 hg).1⟩⟩
theorem ae (h:w.ownsRow base e sz (.slice A n c) n xs):∀g,ab A=some g→base≤g∧g<w.heap.size:=by
 intro g hg;exact h.lt g (by rw[ic];exact hg)
theorem gG (h:w.ownsRow base e sz (.slice A n c) n xs) (hn:0<n):∃g,A=some ⟨g,0,none⟩∧base≤g∧g<w.heap.size:=by
 obtain⟨g,cap,hv,h1,h2⟩:=h.form hn
 injection hv with h3
 exact⟨g,h3,h1,h2⟩
theorem ag {row} (h:w.ownsRow base e sz (.slice A n c) n xs) (hg:w.grownBy w' row) (hne:ab A=none∨ab A≠row):w'.ownsRow base e sz (.slice A n c) n xs:=
 h.kept hg (by rw[ic];exact hne)
theorem own_below {B} (h:w.ownsRow base e sz (.slice A n c) n xs) (hb:Below B w w') (hB:∀g,ab A=some g→g<B):w'.ownsRow base e sz (.slice A n c) n xs:=by
 refine⟨h.1,?_⟩;rcases h.2 with hn|⟨g,cap,cur,hv,h1,hg,rest⟩
 ·exact .inl hn
 ·refine .inr ⟨g,cap,cur,hv,h1,?_,rest⟩;rw[hb.block g (hB g (by injection hv with h3;rw[h3];rfl))];exact hg
end
section
variable {P:Program} (w:World)
theorem KF (base t ty e i z size bytes) (ht:P.underlying t=some (.slice e)) (hi:P.info? e=some i) (hz:i.zero=some z)
  (hsize:i.size=size) (hby:i.bytes=bytes) (hzs:z.cells.size=size) (hsz:0<size)
  (A n c xs) (hown:w.ownsRow base e size (.slice A n c) n xs)
  (B S m d news) (hr:Rd w B size S m d news) (h1:∀u∈news,u.oneCell'=true)
  (h63:n+m≤maxLen) (hbytes:(n+m)*bytes≤140737488355328) (hbase:base≤w.heap.size):
  ∃A2 c2 w',(Builtin.append_ #[t,t] ty #[.slice A n c,.slice S m d]).run P w= .ok (.slice A2 (n+m) c2) w'∧
   w'.ownsRow base e size (.slice A2 (n+m) c2) (n+m) (xs++news)∧w.grownBy w' (ab A)∧(ab A2=ab A∨ab A2=some w.heap.size):=by
 have hm0:m=0→news=[]:=fun h=>qU (by rw[hr.2.2.1,h,Nat.zero_mul])
 rcases S with _|ad
 ·have hm:m=0:=by
   rcases lY m with h0|h0
   ·exact h0
   ·obtain⟨b,off,h,_⟩:=hr.2.2.2 h0;cases h
  have hn:=hm0 hm;subst hm;subst hn;refine⟨A,c,w,?_,by simpa using hown,Ci w _,.inl rfl⟩;rcases hown.2 with⟨hv,_⟩|⟨g,cap,cur,hv,_,_,hnc,_⟩
  ·injection hv with h1 h2 h3
   subst h1;subst h2;subst h3;simp[Builtin.append_,Ee ht,sizeOf,typeInfo,hi,Builtin.lenOf,Builtin.firstCells]
  ·injection hv with h1 h2 h3
   subst h1;subst h3;simp[Builtin.append_,Ee ht,sizeOf,typeInfo,hi,Builtin.lenOf,Builtin.firstCells,hnc,storeCells]
 ·have hcells:∀j u,news[j]? =some u→w.cell? (ad.add j)=some u:=by
   intro j u hu;rcases lY m with h0|h0
   ·rw[hm0 h0]at hu;simp at hu
   ·obtain⟨b,off,h,_,hc⟩:=hr.2.2.2 h0
    injection h with h
    subst h;rw[add_plain];exact hc j u hu
  obtain⟨v',w',hrun,h2,h3,_,h5⟩:=run_append_own_at (P:=P) w base t ty e i z size bytes ht hi hz hsize hby hzs hsz (.slice A n c) n xs hown ad m d news hr.2.2.1 hcells h1 h63 hbytes hbase;obtain⟨A2,c2,rfl,_⟩:=EK h2;rw[ic]at h3;rw[ic,ic]at h5;exact⟨A2,c2,w',hrun,h2,h3,h5⟩
theorem mG {o:Oper} {a K Q} (s x t)
  (ho:o.op= .call {callee:= .builtin .append,args:= #[s,x],argTypes:= #[t,t]})
  (base e i z size bytes) (ht:P.underlying t=some (.slice e)) (hi:P.info? e=some i) (hz:i.zero=some z)
  (hsize:i.size=size) (hby:i.bytes=bytes) (hzs:z.cells.size=size) (hsz:0<size)
  (A n c xs) (hs:a.eval s= .slice A n c) (hown:w.ownsRow base e size (.slice A n c) n xs)
  (B S m d news) (hx:a.eval x= .slice S m d) (hr:Rd w B size S m d news) (h1:∀u∈news,u.oneCell'=true)
  (h63:n+m≤maxLen) (hbytes:(n+m)*bytes≤140737488355328) (hbase:base≤w.heap.size)
  (h:∀A2 c2 w',w'.ownsRow base e size (.slice A2 (n+m) c2) (n+m) (xs++news)→w.grownBy w' (ab A)→(ab A2=ab A∨ab A2=some w.heap.size)→K (a.put o.dst (.slice A2 (n+m) c2)) w'):o.wp P a w K Q:=by
 obtain⟨A2,c2,w',hrun,h2,h3,h4⟩:=KF (P:=P) w base t o.type e i z size bytes ht hi hz hsize hby hzs hsz A n c xs hown B S m d news hr h1 h63 hbytes hbase;unfold Oper.wp execOp;simp only[ho,resolve,invoke,builtin,Sem.run_bind,Sem.run_pure,Result.andThen_ok,List.map_toArray,AJ,List.map_nil,hs,hx,hrun];exact h A2 c2 w' h2 h3 h4
theorem bA {ops rest o a Q} (hgd:Region.wanted o (yielded ops a.tmps)=true) (s x t)
  (ho:o.op= .call {callee:= .builtin .append,args:= #[s,x],argTypes:= #[t,t]})
  (base e i z size bytes) (ht:P.underlying t=some (.slice e)) (hi:P.info? e=some i) (hz:i.zero=some z)
  (hsize:i.size=size) (hby:i.bytes=bytes) (hzs:z.cells.size=size) (hsz:0<size)
  (A n c xs) (hs:a.eval s= .slice A n c) (hown:w.ownsRow base e size (.slice A n c) n xs)
  (B S m d news) (hx:a.eval x= .slice S m d) (hr:Rd w B size S m d news) (h1:∀u∈news,u.oneCell'=true)
  (h63:n+m≤maxLen) (hbytes:(n+m)*bytes≤140737488355328) (hbase:base≤w.heap.size)
  (h:∀A2 c2 w',w'.ownsRow base e size (.slice A2 (n+m) c2) (n+m) (xs++news)→w.grownBy w' (ab A)→(ab A2=ab A∨ab A2=some w.heap.size)→wpList P ops Q rest (a.put o.dst (.slice A2 (n+m) c2)) w'):wpList P ops Q (o::rest) a w:=
 wpList_step fun _ hK=>by
  rw[Ps0 hgd];exact mG w s x t ho base e i z size bytes ht hi hz hsize hby hzs hsz A n c xs hs hown B S m d news hx hr h1 h63 hbytes hbase fun A2 c2 w' h2 h3 h4=>hK _ _ (h A2 c2 w' h2 h3 h4)
end
end
end
section
section
open Go.RowKit
def bv (c:UInt8):Value:= .int .u8 (c.toNat:Int)
def jX (l:List UInt8):List Value:=l.map bv
theorem dU (l):(jX l).length=l.length:=by simp[jX]
theorem UL (l):∀u∈jX l,u.oneCell'=true:=by
 intro u hu;obtain⟨c,_,rfl⟩:=dV.1 hu
 rfl
theorem jG (a b):jX (a++b)=jX a++jX b:=by simp[jX]
def aY (w:World) (B:Nat) (A:Option Addr) (n c:Nat) (l:List UInt8):Prop:=Rd w B 1 A n c (jX l)
theorem aY.len {w B n c A l} (h:aY w B A n c l):n=l.length:=by have:=h.2.2.1;rw[dU]at this;omega
section
variable {w w':World} {B n c:Nat} {A:Option Addr} {l:List UInt8}
theorem aY.below (h:aY w B A n c l) (hb:Below B w w'):aY w' B A n c l:=Rd.below h hb
theorem aY.more {B'} (h:aY w B A n c l) (hB:B≤B'):aY w B' A n c l:=Rd.more h hB
theorem aY.alloc (h:aY w B A n c l) (hB:B≤w.heap.size) (o):aY (w.alloc o) B A n c l:=Rd.alloc h hB o
theorem aY.drewN (h:aY w B A n c l) (k):aY (w.drewN k) B A n c l:=h
theorem aY.setCell (h:aY w B A n c l) {p} (hB:B≤p.block) (u):aY (w.setCell p u) B A n c l:=Rd.setCell h hB u
theorem aY.grown (h:aY w B A n c l) {row} (hg:w.grownBy w' row) (hB:B≤w.heap.size) (hr:∀g,row=some g→B≤g):aY w' B A n c l:=Rd.grown h hg hB hr
theorem aY.take (h:aY w B A n c l) {k} (hk:k≤n):aY w B A k c (l.take k):=by
 have:=Rd.take (k:=k) h hk;rwa[Dp,jX,←List.map_take]at this
theorem aY.drop (h:aY w B A n c l) {k} (hk:k≤n):aY w B (if c=k then A else A.map (·.add k)) (n-k) (c-k) (l.drop k):=by
 have:=Rd.drop (k:=k) h hk;rwa[Dp,jX,←List.map_drop]at this
end
theorem aY.at_ {w B n c k A l} (h:aY w B A n c l) (hk:k<l.length):∃b off,A=some ⟨b,off,none⟩∧b<B∧w.cell? ⟨b,off+k,none⟩=some (.int .u8 (l[k].toNat:Int)):=by
 obtain⟨b,off,u,e,hb,hu,hc⟩:=Rd.at_ h (show k<n by rw[h.len];exact hk);refine⟨b,off,e,hb,?_⟩;rw[hc];simp[jX,hk]at hu;rw[←hu];rfl
def ah (w:World) (base:Nat) (A:Option Addr) (n c:Nat) (l:List UInt8):Prop:=w.ownsRow base 5 1 (.slice A n c) n (jX l)
theorem ah.rd {w base n c A l} (h:ah w base A n c l):aY w w.heap.size A n c l:=Rd.bz h
theorem ah.len {w base n c A l} (h:ah w base A n c l):n=l.length:=h.rd.len
theorem KH:(prog.info? 5).map (fun i=>(i.zero,i.size,i.bytes))=some (some (.int .u8 0),1,1):=kr
theorem eB {w ops rest o a Q} (hgd:Region.wanted o (yielded ops a.tmps)=true) (s x)
  (ho:o.op= .call {callee:= .builtin .append,args:= #[s,x],argTypes:= #[22,22]})
  (base A n c l) (hs:a.eval s= .slice A n c) (hown:ah w base A n c l)
  (B S m d k) (hx:a.eval x= .slice S m d) (hr:aY w B S m d k)
  (hlen:n+m≤140737488355328) (hbase:base≤w.heap.size)
  (h:∀A2 c2 w',ah w' base A2 (n+m) c2 (l++k)→w.grownBy w' (ab A)→(ab A2=ab A∨ab A2=some w.heap.size)→wpList prog ops Q rest (a.put o.dst (.slice A2 (n+m) c2)) w'):wpList prog ops Q (o::rest) a w:=by
 obtain⟨i0,hi0,hz0,hz1,hz2⟩:=AY KH;refine bA w hgd s x _ ho base 5 i0 (.int .u8 0) 1 1 underlying22 hi0 hz0 hz1 hz2 rfl Ai A n c (jX l) hs hown B S m d (jX k) hx hr (UL k) (by unfold maxLen;omega) om hbase ?_;rw[←jG];exact h
theorem ah.made (w:World) (base) (h:base≤w.heap.size):ah (w.alloc (.cells #[] 5)) base (some ⟨w.heap.size,0,none⟩) 0 0 []:=World.ownsRow_made w #[] 0 h Ah rfl
theorem aY.one (w:World) (c):aY (w.alloc (.cells #[.int .u8 (c.toNat:Int)] 5)) (w.heap.size+1) (some ⟨w.heap.size,0,none⟩) 1 1 [c]:=
 ⟨Nr _,by unfold maxLen;omega,rfl,fun _=>⟨_,0,rfl,om,fun i u hu=>by
  match i,hu with
  |0,hu=>
   simp[jX]at hu;subst hu;exact Aq w _ _ _ 0⟩⟩
theorem aY.afe (w:World) (l fr) (h:l.length≤9223372036854775807):aY (w.alloc (.cells (jX l).toArray 5 fr)) (w.heap.size+1) (some ⟨w.heap.size,0,none⟩) l.length l.length l:=
 ⟨Nr _,by unfold maxLen;omega,by simp[jX],fun _=>⟨_,0,rfl,om,fun i u hu=>by
  rw[bO];exact(Aq w _ _ _ i).trans (by simpa using hu)⟩⟩
theorem ah.at_ {w base g n c k l} (h:ah w base (some ⟨g,0,none⟩) n c l) (hk:k<l.length):
  w.cell? ⟨g,k,none⟩=some (.int .u8 (l[k].toNat:Int))∧w.frozen? ⟨g,k,none⟩=false:=by
 have hn:=h.len;refine⟨?_,AX h k⟩;rw[Bq h k om];simp[jX,bv,hk]
theorem ah.set {w base g n c l} (h:ah w base (some ⟨g,0,none⟩) n c l) (k x):
  ah (w.setCell ⟨g,k,none⟩ (.int .u8 (x.toNat:Int))) base (some ⟨g,0,none⟩) n c (l.set k x):=by
 have:=BJ h k (.int .u8 (x.toNat:Int));unfold ah;have e:jX (l.set k x)=(jX l).set k (.int .u8 (x.toNat:Int)):=by simp[jX,bv,Ex]
 rw[e];exact this.1
theorem ah.pos {w base n c A l} (h:ah w base A n c l) (hn:0<n):∃g,A=some ⟨g,0,none⟩∧base≤g∧g<w.heap.size:=gG h hn
theorem vF (w:World) (C n c):(convert 22 22 (.slice (some ⟨w.heap.size,0,none⟩) n c)).run prog (w.alloc (.cells C 5))= .ok (.slice (some ⟨w.heap.size,0,none⟩) n c) (w.alloc (.cells C 5 (C.size,C.size+1))):=
 Lib.run_convert_bytes_const (P:=prog) w 22 5 C n c underlying22 underlying5
theorem bJ (w B A n c l) (h:aY w B A n c l):
  (convert 22 9 (.slice A n c)).run prog w= .ok (.string ⟨l.toArray⟩) w:=by
 obtain rfl:=h.len;by_cases hl:l=[]
 ·subst hl;cases A with
  |none=>exact run_convert_bytes_nil (P:=prog) w 22 5 underlying22 underlying5 0 c 9 underlying9
  |some a=>exact run_convert_bytes_back (P:=prog) w 22 9 5 a c [] underlying22 underlying5 underlying9 (fun j hj=>by simp at hj)
 ·have hp:0<l.length:=mH.2 hl;obtain⟨b,off,rfl,hb,hc⟩:=h.2.2.2 hp;refine run_convert_bytes_back (P:=prog) w 22 9 5 ⟨b,off,none⟩ c l underlying22 underlying5 underlying9 (fun j hj=>?_);rw[add_plain];exact hc j _ (by simp[jX,hj];rfl)
end
end
section
namespace Vi
def zU (x:Nat):List (Nat×Bool):=if x<128 then[(x,true)]else(x%128,false)::zU (x/128)
termination_by x
def enc1 (p:Nat×Bool):UInt8:=UInt8.ofNat (if p.2 then p.1 else p.1+128)
def enc (x:Nat):List UInt8:=(zU x).map enc1
theorem oP {x} (h:x<128):zU x=[(x,true)]:=by rw[zU,Ps0 h]
theorem xW {x} (h:128≤x):zU x=(x%128,false)::zU (x/128):=by rw[zU,Ng om]
theorem xX {x} (h:x<128):enc x=[UInt8.ofNat x]:=by rw[enc,oP h];rfl
theorem IM {x} (h:128≤x):enc x=UInt8.ofNat (x%128+128)::enc (x/128):=by
 rw[enc,xW h];rfl
theorem xY:∀(n x),x<128^ (n+1)→(zU x).length≤n+1
 |0,x,h=>by rw[oP (by simpa using h)];simp
 |n+1,x,h=>by
  by_cases hx:x<128
  ·rw[oP hx];simp
  ·rw[xW om,Lc];have:=xY n (x/128) (by rw[CY]at h;exact Nat.div_lt_of_lt_mul om);omega
theorem bF (x) (h:x<18446744073709551616):(enc x).length≤10:=by
 rw[enc,fM];exact xY 9 x om
theorem cK (x):0< (enc x).length:=by
 by_cases h:x<128
 ·rw[xX h];simp
 ·rw[IM om];simp
theorem UM (x):∀p∈zU x,p.1<128:=by
 have:∀m,x≤m→∀p∈zU x,p.1<128:=by
  intro m
  induction m generalizing x with
  |zero=>intro h p hp;rw[oP om]at hp;simp at hp;rw[hp];omega
  |succ m ih=>
   intro h p hp;by_cases hx:x<128
   ·rw[oP hx]at hp;simp at hp;rw[hp];exact hx
   ·rw[xW om]at hp;rcases iW.1 hp with rfl|hp
    ·exact Nat.mod_lt _ om
    ·exact ih (x/128) om p hp
 exact this x Aj
def fP:List UInt8→Nat→Nat→Nat×Nat×Nat
 |[],_,_=>(0,0,3)
 |c::l,i,x=>
  if i=9∧1<c.toNat then(0,0,6)
  else if c.toNat=0∧0<i then(0,0,5)
  else if c.toNat<128 then(x+c.toNat%128*128^i,i+1,0)
  else fP l (i+1) (x+c.toNat%128*128^i)
def get (l:List UInt8) (at_:Int):Nat×Int×Nat:=
 if at_<0∨(l.length:Int)<at_ then(0,0,2)
 else
  let r:=fP (l.drop at_.toNat) 0 0
  if r.2.2=0 then(r.1,at_+r.2.1,0)else(0,0,r.2.2)
theorem bZ (c l i x):fP (c::l) i x=
  if i=9∧1<c.toNat then(0,0,6)
  else if c.toNat=0∧0<i then(0,0,5)
  else if c.toNat<128 then(x+c.toNat%128*128^i,i+1,0)
  else fP l (i+1) (x+c.toNat%128*128^i):=rfl
theorem Y0 (x y i) (hx:x<128^i):x|||y*128^i=x+y*128^i:=by
 have e:(128:Nat)^i=2^ (7*i):=by rw[Nat.pow_mul]
 rw[e]at hx⊢;rw[←Cc,Nat.or_comm,←Nat.shiftLeft_add_eq_or_of_lt hx,Nat.add_comm]
theorem UN {x i c} (hx:x<128^i) (hi:i≤9) (hc:¬(i=9∧1<c)):x+c%128*128^i<18446744073709551616:=by
 by_cases h9:i=9
 ·subst h9;have h1:c≤1:=om;have h2:c%128≤1:=om;have h3:c%128*128^9≤1*128^9:=Bl _ h2;have h4:(128:Nat)^9=9223372036854775808:=Ai;omega
 ·have h1:i≤8:=by omega
  have h2:(128:Nat)^i≤128^8:=kF om h1;have h4:(128:Nat)^8=72057594037927936:=Ai;have h3:c%128*128^i≤127*128^i:=Bl _ om;omega
theorem PN {x i c} (hx:x<128^i):x+c%128*128^i<128^ (i+1):=by
 have h3:c%128*128^i≤127*128^i:=Bl _ om;rw[CY];omega
theorem toNat_ofNat {x:Nat} (h:x<256):(UInt8.ofNat x).toNat=x:=by simp;omega
theorem EM:∀(n x i a) (r),x<128^n→i+n≤9∨(i+n=10∧x*128^i<18446744073709551616)→(0<i→0<x)→fP (enc x++r) i a=(a+x*128^i,i+(enc x).length,0)
 |0,x,i,a,r,h,hi,h0=>by
  have hx:x=0:=by simpa using h
  subst hx;have hi0:i=0:=by
   rcases lY i with h|h
   ·exact h
   ·exact absurd (h0 h) om
  subst hi0;rw[xX om]
  rfl
 |n+1,x,i,a,r,h,hi,h0=>by
  have h9:i≤9:=om;have h128:i=9→x≤1:=by
   intro e;subst e;rcases hi with h'|h'
   ·omega
   ·have h4:(128:Nat)^9=9223372036854775808:=by decide
    rw[h4]at h';omega
  by_cases hx:x<128
  ·rw[xX hx,List.singleton_append,bZ,toNat_ofNat om,Ng om,Ng om,Ps0 hx,kG hx]
   rfl
  ·have hi9:i≠9:=fun e=>by have:=h128 e;omega
   rw[IM om,Bc,bZ,toNat_ofNat om,Ng om,Ng om,Ng om,EM n (x/128) (i+1) _ r (by rw[CY]at h;exact Nat.div_lt_of_lt_mul om) ?_ om]
   ·rw[Lc];have e1:(x%128+128)%128=x%128:=om;have e2:x/128*128^ (i+1)=x/128*128*128^i:=by rw[CY,EE,Ej 128]
    have e3:x%128*128^i+x/128*128*128^i=x*128^i:=by rw[←DX];congr 1;omega
    rw[e1,e2,iw,e3];simp only[aA,true_and,BO];omega
   ·rcases hi with h'|⟨h1,h2⟩
    ·exact .inl om
    ·refine .inr ⟨om,El ?_ h2⟩;rw[CY,Ej _ 128,←EE];exact Bl _ om
theorem xZ (l x r) (hx:x<18446744073709551616):get (l++enc x++r) (l.length:Int)=(x,((l.length+(enc x).length:Nat):Int),0):=by
 unfold get;rw[Ng (by simp;omega)];have e:(l++enc x++r).drop (l.length:Int).toNat=enc x++r:=by
  rw[lZ,Af,Dr]
 rw[e];rw[EM 10 x 0 0 r om (.inr ⟨rfl,om⟩) om];simp
end Vi
end
section
section
open Go.RowKit Go.Shelf
def wN (O:Nat→Prop) {β:Type} (J:β→World→Prop):Prop:=
 ∀s W W' row,J s W→W.grownBy W' row→(∀r,row=some r→O r)→J s W'
def aI (B:Nat) (O:Nat→Prop) {β:Type} (I:β→World→Prop):Prop:=
 ∀s W W' row,I s W→W.grownBy W' row→(∀r,row=some r→O r∨(B≤r∧∃o:Obj,W.heap[r]? =some o∧o.isCells=false))→I s W'
def Yields {α:Type} (n:Nat) (P:Program) (gf:Nat) (lb:Array Value) (encs:α→Array Value) (O:Nat→Prop) (Kp:World→World→Prop) (L:List α) (w:World):Prop:=
 ∀(l:Nat) (J Jx:List α→World→Prop) (W:World),Kp w W→wN O J→wN O Jx→
  (∀pre x W1,J pre W1→pre++[x]<+:L→YieldAt Fence.wide (n-1) P l (encs x) W1 fun e W'=>
   (e= .returned (.bool true)∧J (pre++[x]) W'∧Kp W1 W')∨(e= .returned (.bool false)∧Jx (pre++[x]) W'))→
  J [] W→
  CallsIn Fence.wide n P gf (#[.func (.yield l) #[] #[]]++lb) W fun e W'=>(∃v,e= .returned v)∧(J L W'∨(∃pre,pre<+:L∧Jx pre W'))
def x8 {α:Type} (B:Nat) (Kp:World→World→Prop) (I:List α→World→Prop) (Ix:Code→List α→World→Prop) (xs:List α) (W:World):Exit→Act→World→Prop
 | .normal,_,W'=>KeepsFrom B W W'∧Kp W W'∧I xs W'
 | .ret,_,W'=>KeepsFrom B W W'∧Ix .ret xs W'
 | .exit id,_,W'=>KeepsFrom B W W'∧Ix (.exit id) xs W'
 | .goto t,_,W'=>KeepsFrom B W W'∧Ix (.goto t) xs W'
 | .panic _,_,_=>False
 | .outgrown,_,_=>False
theorem eY {F n₁ P} (w) {ops rest o a Q} (hg:o.guard=none) (s x t)
  (ho:o.op= .call {callee:= .builtin .append,args:= #[s,x],argTypes:= #[t,t]})
  (base e i z size bytes) (ht:P.underlying t=some (.slice e)) (hi:P.info? e=some i) (hz:i.zero=some z)
  (hsize:i.size=size) (hby:i.bytes=bytes) (hzs:z.cells.size=size) (hsz:0<size)
  (A n c xs) (hs:a.eval s= .slice A n c) (hown:w.ownsRow base e size (.slice A n c) n xs)
  (B S m d news) (hx:a.eval x= .slice S m d) (hr:Rd w B size S m d news) (h1:∀u∈news,u.oneCell'=true)
  (h63:n+m≤maxLen) (hbytes:(n+m)*bytes≤140737488355328) (hbase:base≤w.heap.size)
  (h:∀A2 c2 w',w'.ownsRow base e size (.slice A2 (n+m) c2) (n+m) (xs++news)→w.grownBy w' (ab A)→(ab A2=ab A∨ab A2=some w.heap.size)→wpListIn F n₁ P ops Q rest (a.put o.dst (.slice A2 (n+m) c2)) w'):wpListIn F n₁ P ops Q (o::rest) a w:=by
 refine wpListIn_plain hg fun K hK'=>?_
 obtain⟨A2,c2,w',hrun,h2,h3,h4⟩:=KF (P:=P) w base t o.type e i z size bytes ht hi hz hsize hby hzs hsz A n c xs hown B S m d news hr h1 h63 hbytes hbase;unfold Oper.wpIn;refine⟨?_,?_⟩
 ·simp[Oper.about,ho,resolve,Target.leads,Sem.run_pure]
 ·rw[Oper.semAt_plain F _ _ (by rw[ho];intro c hc';cases hc')];simp[execOp,ho,resolve,invoke,builtin,hs,hx,hrun,Result.andThen];exact hK' _ _ (h A2 c2 w' h2 h3 h4)
end
end
section
section
open Go.RowKit Go.Shelf
def rA {α:Type} (n:Nat) (P:Program) (gf:Nat) (lb:Array Value) (encs:α→Array Value) (O:Nat→Prop) (Kp:World→World→Prop) (L:List α) (w:World) (X:List α→World→Prop):Prop:=
 ∀(l:Nat) (J Jx:List α→World→Prop) (W:World),Kp w W→wN O J→wN O Jx→(∀pre W',Jx pre W'→X pre W')→
  (∀pre x W1,J pre W1→pre++[x]<+:L→YieldAt Fence.wide (n-1) P l (encs x) W1 fun e W'=>
   (e= .returned (.bool true)∧J (pre++[x]) W'∧Kp W1 W')∨(e= .returned (.bool false)∧Jx (pre++[x]) W'))→
  J [] W→
  CallsIn Fence.wide n P gf (#[.func (.yield l) #[] #[]]++lb) W fun e W'=>(∃v,e= .returned v)∧(J L W'∨(∃pre,pre<+:L∧Jx pre W'))
def KJ {α:Type} (n:Nat) (P:Program) (gf:Nat) (lb:Array Value) (En:α→Array Value→World→Prop) (O:Nat→Prop) (Kp:World→World→Prop) (L:List α) (w:World) (X:List α→World→Prop):Prop:=
 ∀(l:Nat) (J Jx:List α→World→Prop) (W:World),Kp w W→wN O J→wN O Jx→(∀pre W',Jx pre W'→X pre W')→
  (∀pre x args W1,J pre W1→En x args W1→pre++[x]<+:L→YieldAt Fence.wide (n-1) P l args W1 fun e W'=>
   (e= .returned (.bool true)∧J (pre++[x]) W'∧Kp W1 W')∨(e= .returned (.bool false)∧Jx (pre++[x]) W'))→
  J [] W→
  CallsIn Fence.wide n P gf (#[.func (.yield l) #[] #[]]++lb) W fun e W'=>(∃v,e= .returned v)∧(J L W'∨(∃pre,pre<+:L∧Jx pre W'))
theorem wO {α:Type} {n:Nat} {P:Program} {g:Operand} {ps:Array Tmp} {assign body:Code} {Q:Exit→Act→World→Prop} {a:Act} {w:World}
  (h1:1≤n) {gf:Nat} {lb:Array Value} (hg:a.eval g= .func (.func gf) #[] lb) (eg:∀args w,(callFunc gf args).run P w= .ok (.enter gf args) w)
  {En:α→Array Value→World→Prop} {O:Nat→Prop} {Kp:World→World→Prop} {L:List α}
  (hO:∀r,O r→r<w.heap.size)
  (hKt:∀{A B C:World},Kp A B→Kp B C→Kp A C)
  (hKb:∀(W W':World) (row:Option Nat),w.heap.size≤W.heap.size→W.grownBy W' row→(∀r,row=some r→w.heap.size≤r∧∃o:Obj,W.heap[r]? =some o∧o.isCells=false)→Kp W W')
  (hps:∀x args W,En x args W→args.size=ps.size)
  (I:List α→World→Prop) (Ix:Code→List α→World→Prop) (M:List α→α→Act→World→Prop) (hseq:KJ (n-1) P gf lb En O Kp L w (fun pre W=>∃c,Ix c pre W))
  (hI:aI w.heap.size O I) (hIx:∀c,aI w.heap.size O (Ix c)) (hM:∀pre x a,aI w.heap.size O (fun(_:Unit) W=>M pre x a W)) (h0:I [] w)
  (hassign:∀(l:Nat) (pre:List α) (x:α) (args:Array Value) (W:World),I pre W→En x args W→pre++[x]<+:L→w.heap.size≤W.heap.size→
   assign.wpIn (Fence.wide.inRound l) (n-1-1) P (Exit.then (fun a₁ W₁=>KeepsFrom w.heap.size W W₁∧Kp W W₁∧M pre x a₁ W₁) (fun _ _ _=>False))
    {tmps:=(ps.zip args).foldl (fun t (p,v)=>t.setIfInBounds p v) a.tmps,defers:=[]} W)
  (hbody:∀(l:Nat) (pre:List α) (x:α) (a₁:Act) (W:World),M pre x a₁ W→pre++[x]<+:L→w.heap.size≤W.heap.size→
   body.wpIn (Fence.wide.inRound l) (n-1-1) P (x8 w.heap.size Kp I Ix (pre++[x]) W) a₁ W)
  (hdone:∀(D:Nat) (W:World),w.heap.size≤D→I L W→W.heap[D]? =some (.deferred (some []))→Q .normal {a with defers:={target:= .collected D,args:= #[]}::a.defers} W)
  (hstop:∀(D:Nat) (c:Code) (pre:List α) (W:World),w.heap.size≤D→pre<+:L→Ix c pre W→W.heap[D]? =some (.deferred (some []))→c.wpIn Fence.wide n P Q {a with defers:={target:= .collected D,args:= #[]}::a.defers} W):
  (Code.rangeFunc g ps assign body).wpIn Fence.wide n P Q a w:=by
 refine wpIn_rangeFunc fun fn hfn=>?_
 obtain⟨rec,hrec⟩:∃rec:LoopState→Option Code→Loop,rec=fun st pe=>{state:=st,pending:=pe,fn,tmps:=a.tmps,params:=ps,assign,body,defers:=w.heap.size}:=⟨_,rfl⟩
 obtain⟨l,hl0⟩:∃l,l=w.heap.size+1:=⟨_,rfl⟩
 obtain⟨D,hD0⟩:∃D,D=w.heap.size:=⟨_,rfl⟩
 obtain⟨W1,hW1⟩:∃W1,W1=(w.alloc (.deferred (some []))).alloc (.loop (rec .ready none)):=⟨_,rfl⟩
 have hsz1:W1.heap.size=w.heap.size+2:=by rw[hW1];simp
 have hL1:W1.heap[l]? =some (.loop (rec .ready none)):=by
  rw[hW1,hl0];have:=AL (w.alloc (.deferred (some []))) (.loop (rec .ready none));rwa[AV]at this
 have hK1:W1.heap[D]? =some (.deferred (some [])):=by
  rw[hW1,hD0];exact(Ay _ _ _ Ah).trans (AL w _)
 have hgr:w.grownBy W1 none:=by
  rw[hW1];exact⟨rfl,rfl,rfl,by simp;omega,fun k hk _=>(Ay _ _ _ (by simp;omega)).trans (Ay _ _ _ hk)⟩
 have hI1:I [] W1:=hI _ _ _ _ h0 hgr (fun r e=>by cases e);have hnl:∀r,O r→r≠l:=fun r hr=>by have:=hO r hr;omega
 have hnD:∀r,O r→r≠D:=fun r hr=>by have:=hO r hr;omega
 refine⟨l,[{target:= .collected D,args:= #[]}],W1,{target:= .fn (.func gf) lb,args:= #[.func (.yield l) #[] #[]]},W1,gf,#[.func (.yield l) #[] #[]]++lb,W1,?_,?_,fun _ _=>trivial,?_,fun _=>h1,?_⟩
 ·rw[hW1,hl0,hD0,hrec];exact run_enterLoop_outer _ _ _ _ _
 ·simp only[resolve,hg];simp[go_sem]
 ·simp[invoke,go_sem,eg]
 refine(hseq l
  (fun pre W=>I pre W∧W.heap[l]? =some (.loop (rec .ready none))∧W.heap[D]? =some (.deferred (some [])))
  (fun pre W=>∃c,Ix c pre W∧W.heap[l]? =some (.loop (rec .done (some c)))∧W.heap[D]? =some (.deferred (some [])))
  W1 (hKb _ _ _ Aj hgr (fun r e=>by cases e)) ?_ ?_ (fun pre W' ⟨c,hc,_⟩=>⟨c,hc⟩) ?_ ⟨hI1,hL1,hK1⟩).mono ?_
 ·rintro s X Y row ⟨hi,hx,hd⟩ hg' hr;have hlx:=(Ge.1 hx).1;have Na:=(Ge.1 hd).1;exact⟨hI s X Y row hi hg' (fun r e=> .inl (hr r e)),(hg'.block l hlx (fun e=>hnl l (hr l e.symm) rfl)).trans hx,(hg'.block D Na (fun e=>hnD D (hr D e.symm) rfl)).trans hd⟩
 ·rintro s X Y row ⟨c,hi,hx,hd⟩ hg' hr;have hlx:=(Ge.1 hx).1;have Na:=(Ge.1 hd).1;exact⟨c,hIx c s X Y row hi hg' (fun r e=> .inl (hr r e)),(hg'.block l hlx (fun e=>hnl l (hr l e.symm) rfl)).trans hx,(hg'.block D Na (fun e=>hnD D (hr D e.symm) rfl)).trans hd⟩
 ·
  rintro pre x args W ⟨hi,hx,hd⟩ hen hpre;have hlx:l<W.heap.size:=(Ge.1 hx).1;have hy:=run_yield (P:=P) (args:=args) hx (by rw[hrec];exact hps x args W hen);have e1:(rec .ready none).fn=fn:=by rw[hrec]
  have e2:(rec .ready none).params=ps:=by rw[hrec]
  have e3:(rec .ready none).tmps=a.tmps:=by rw[hrec]
  have e4:(rec .ready none).assign=assign:=by rw[hrec]
  have e5:(rec .ready none).body=body:=by rw[hrec]
  rw[e1,e2,e3,e4,e5]at hy;refine⟨fn,_,assign,body,hy,roundIn_of_wpIn hfn (wpIn_mono (hassign l pre x args W hi hen hpre om) ?_)⟩;rintro e a₁ W₁ hq;cases e with
  |normal=>
   obtain⟨hk1,hp1,hm1⟩:=hq;have hx1:=hk1.same l _ om hx rfl;have hd1:=hk1.same D _ om hd rfl;have hl1:=(Ge.1 hx1).1;refine⟨_,run_beginRound hx1 (by rw[hrec]),?_⟩;obtain⟨W₂,UO⟩:∃W₂,W₂=W₁.putObj l (.loop {rec .ready none with state:= .busy}):=⟨_,rfl⟩
   rw[←UO];have hg2:W₁.grownBy W₂ (some l):=by rw[UO];exact Bn W₁ l _
   have hx2:W₂.heap[l]? =some (.loop {rec .ready none with state:= .busy}):=by rw[UO];exact World.putObj_heap_same hl1
   have hd2:W₂.heap[D]? =some (.deferred (some [])):=by rw[UO];exact(Cf om).trans hd1
   have hm2:M pre x a₁ W₂:=hM pre x a₁ () _ _ _ hm1 hg2 (fun r e=>by cases e;exact .inr ⟨om,_,hx1,rfl⟩);have hp2:Kp W W₂:=hKt hp1 (hKb _ _ _ om hg2 (fun r e=>by cases e;exact⟨om,_,hx1,rfl⟩));have hz2:w.heap.size≤W₂.heap.size:=by have:=hg2.size;omega
   refine wpIn_mono (hbody l pre x a₁ W₂ hm2 hpre hz2) ?_;have fin:∀(jump:Option Code) (W3:World),KeepsFrom w.heap.size W₂ W3→∃W4,(Instr.endRound l jump).run P W3= .ok (.bool jump.isNone) W4∧W3.grownBy W4 (some l)∧W3.heap[l]? =some (.loop {rec .ready none with state:= .busy})∧
     W4.heap[l]? =some (.loop (rec (if jump.isNone then .ready else .done) jump))∧W4.heap[D]? =some (.deferred (some [])):=by
    intro jump W3 hk3;have hx3:=hk3.same l _ om hx2 rfl;have hd3:=hk3.same D _ om hd2 rfl;have hl3:=(Ge.1 hx3).1;refine⟨_,run_endRound jump hx3,Bn W3 l _,hx3,?_,(Cf om).trans hd3⟩;rw[World.putObj_heap_same hl3,hrec]
   rintro e a3 W3 hp;cases e with
   |normal=>
    obtain⟨hk3,hp3,hi3⟩:=hp;obtain⟨W4,hr4,hg4,hx3,hx4,hd4⟩:=fin none W3 hk3;refine⟨_,W4,hr4,.inl ⟨rfl,⟨hI _ _ _ _ hi3 hg4 (fun r e=>by cases e;exact .inr ⟨om,_,hx3,rfl⟩),hx4,hd4⟩,hKt (hKt hp2 hp3) (hKb _ _ _ (by have:=(Ge.1 hx3).1;omega) hg4 (fun r e=>by cases e;exact⟨om,_,hx3,rfl⟩))⟩⟩
   |ret=>
    obtain⟨hk3,hi3⟩:=hp;obtain⟨W4,hr4,hg4,hx3,hx4,hd4⟩:=fin (some .ret) W3 hk3;exact⟨_,W4,hr4,.inr ⟨rfl,.ret,hIx _ _ _ _ _ hi3 hg4 (fun r e=>by cases e;exact .inr ⟨om,_,hx3,rfl⟩),hx4,hd4⟩⟩
   |exit id=>
    obtain⟨hk3,hi3⟩:=hp;obtain⟨W4,hr4,hg4,hx3,hx4,hd4⟩:=fin (some (.exit id)) W3 hk3;exact⟨_,W4,hr4,.inr ⟨rfl,.exit id,hIx _ _ _ _ _ hi3 hg4 (fun r e=>by cases e;exact .inr ⟨om,_,hx3,rfl⟩),hx4,hd4⟩⟩
   |goto t=>
    obtain⟨hk3,hi3⟩:=hp;obtain⟨W4,hr4,hg4,hx3,hx4,hd4⟩:=fin (some (.goto t)) W3 hk3;exact⟨_,W4,hr4,.inr ⟨rfl,.goto t,hIx _ _ _ _ _ hi3 hg4 (fun r e=>by cases e;exact .inr ⟨om,_,hx3,rfl⟩),hx4,hd4⟩⟩
   |panic ch=>exact hp.elim
   |outgrown=>exact hp.elim
  |exit id=>exact hq.elim
  |goto t=>exact hq.elim
  |ret=>exact hq.elim
  |panic chain=>exact hq.elim
  |outgrown=>exact hq.elim
 ·
  rintro e W2 ⟨⟨v,rfl⟩,(⟨hi,hx,hd⟩|⟨pre,hpre,c,hi,hx,hd⟩)⟩
  ·have hend:=run_endLoop (P:=P) hx (by rw[hrec];simp);have e6:(rec .ready none).pending=none:=by rw[hrec]
   rw[e6]at hend;refine⟨none,_,hend,hdone D _ om (hI _ _ _ _ hi (Bn W2 l _) (fun r e=>by cases e;exact .inr ⟨om,_,hx,rfl⟩)) ((Cf om).trans hd)⟩
  ·have hend:=run_endLoop (P:=P) hx (by rw[hrec];simp);have e6:(rec .done (some c)).pending=some c:=by rw[hrec]
   rw[e6]at hend;refine⟨some c,_,hend,hstop D c pre _ om hpre (hIx c _ _ _ _ hi (Bn W2 l _) (fun r e=>by cases e;exact .inr ⟨om,_,hx,rfl⟩)) ((Cf om).trans hd)⟩
theorem jd {α:Type} {n:Nat} {P:Program} {g:Operand} {ps:Array Tmp} {assign body:Code} {Q:Exit→Act→World→Prop} {a:Act} {w:World}
  (h1:1≤n) {gf:Nat} {lb:Array Value} (hg:a.eval g= .func (.func gf) #[] lb) (eg:∀args w,(callFunc gf args).run P w= .ok (.enter gf args) w)
  {encs:α→Array Value} {O:Nat→Prop} {Kp:World→World→Prop} {L:List α}
  (hO:∀r,O r→r<w.heap.size)
  (hKt:∀{A B C:World},Kp A B→Kp B C→Kp A C)
  (hKb:∀(W W':World) (row:Option Nat),w.heap.size≤W.heap.size→W.grownBy W' row→(∀r,row=some r→w.heap.size≤r)→Kp W W')
  (hps:∀x,(encs x).size=ps.size)
  (I:List α→World→Prop) (Ix:Code→List α→World→Prop) (M:List α→α→Act→World→Prop) (hseq:rA (n-1) P gf lb encs O Kp L w (fun pre W=>∃c,Ix c pre W))
  (hI:aI w.heap.size O I) (hIx:∀c,aI w.heap.size O (Ix c)) (hM:∀pre x a,aI w.heap.size O (fun(_:Unit) W=>M pre x a W)) (h0:I [] w)
  (hassign:∀(l:Nat) (pre:List α) (x:α) (W:World),I pre W→pre++[x]<+:L→w.heap.size≤W.heap.size→
   assign.wpIn (Fence.wide.inRound l) (n-1-1) P (Exit.then (fun a₁ W₁=>KeepsFrom w.heap.size W W₁∧Kp W W₁∧M pre x a₁ W₁) (fun _ _ _=>False))
    {tmps:=(ps.zip (encs x)).foldl (fun t (p,v)=>t.setIfInBounds p v) a.tmps,defers:=[]} W)
  (hbody:∀(l:Nat) (pre:List α) (x:α) (a₁:Act) (W:World),M pre x a₁ W→pre++[x]<+:L→w.heap.size≤W.heap.size→
   body.wpIn (Fence.wide.inRound l) (n-1-1) P (x8 w.heap.size Kp I Ix (pre++[x]) W) a₁ W)
  (hdone:∀(D:Nat) (W:World),w.heap.size≤D→I L W→W.heap[D]? =some (.deferred (some []))→Q .normal {a with defers:={target:= .collected D,args:= #[]}::a.defers} W)
  (hstop:∀(D:Nat) (c:Code) (pre:List α) (W:World),w.heap.size≤D→pre<+:L→Ix c pre W→W.heap[D]? =some (.deferred (some []))→c.wpIn Fence.wide n P Q {a with defers:={target:= .collected D,args:= #[]}::a.defers} W):
  (Code.rangeFunc g ps assign body).wpIn Fence.wide n P Q a w:=
 wO (Kp:=Kp) (En:=fun x args _=>args=encs x) h1 hg eg hO hKt (fun W W' row g1 g2 g3=>hKb W W' row g1 g2 fun r e=>(g3 r e).1) (fun x args W e=>by rw[e];exact hps x) I Ix M
  (fun l J Jx W hk m1 m2 hx hr=>hseq l J Jx W hk m1 m2 hx fun pre x W1 hj hp=>hr pre x _ W1 hj rfl hp) hI hIx hM h0 (fun l pre x args W hi e hp hz=>by subst e;exact hassign l pre x W hi hp hz) hbody hdone hstop
theorem su {α:Type} {n:Nat} {P:Program} {g:Operand} {ps:Array Tmp} {assign body:Code} {Q:Exit→Act→World→Prop} {a:Act} {w:World}
  (h1:1≤n) {gf:Nat} {lb:Array Value} (hg:a.eval g= .func (.func gf) #[] lb) (eg:∀args w,(callFunc gf args).run P w= .ok (.enter gf args) w)
  {encs:α→Array Value} {O:Nat→Prop} {Kp:World→World→Prop} {L:List α} (hseq:Yields (n-1) P gf lb encs O Kp L w)
  (hO:∀r,O r→r<w.heap.size)
  (hKt:∀{A B C:World},Kp A B→Kp B C→Kp A C)
  (hKb:∀(W W':World) (row:Option Nat),w.heap.size≤W.heap.size→W.grownBy W' row→(∀r,row=some r→w.heap.size≤r)→Kp W W')
  (hps:∀x,(encs x).size=ps.size)
  (I:List α→World→Prop) (Ix:Code→List α→World→Prop) (M:List α→α→Act→World→Prop)
  (hI:aI w.heap.size O I) (hIx:∀c,aI w.heap.size O (Ix c)) (hM:∀pre x a,aI w.heap.size O (fun(_:Unit) W=>M pre x a W)) (h0:I [] w)
  (hassign:∀(l:Nat) (pre:List α) (x:α) (W:World),I pre W→pre++[x]<+:L→w.heap.size≤W.heap.size→
   assign.wpIn (Fence.wide.inRound l) (n-1-1) P (Exit.then (fun a₁ W₁=>KeepsFrom w.heap.size W W₁∧Kp W W₁∧M pre x a₁ W₁) (fun _ _ _=>False))
    {tmps:=(ps.zip (encs x)).foldl (fun t (p,v)=>t.setIfInBounds p v) a.tmps,defers:=[]} W)
  (hbody:∀(l:Nat) (pre:List α) (x:α) (a₁:Act) (W:World),M pre x a₁ W→pre++[x]<+:L→w.heap.size≤W.heap.size→
   body.wpIn (Fence.wide.inRound l) (n-1-1) P (x8 w.heap.size Kp I Ix (pre++[x]) W) a₁ W)
  (hdone:∀(D:Nat) (W:World),w.heap.size≤D→I L W→W.heap[D]? =some (.deferred (some []))→Q .normal {a with defers:={target:= .collected D,args:= #[]}::a.defers} W)
  (hstop:∀(D:Nat) (c:Code) (pre:List α) (W:World),w.heap.size≤D→pre<+:L→Ix c pre W→W.heap[D]? =some (.deferred (some []))→c.wpIn Fence.wide n P Q {a with defers:={target:= .collected D,args:= #[]}::a.defers} W):
  (Code.rangeFunc g ps assign body).wpIn Fence.wide n P Q a w:=
 jd (Kp:=Kp) h1 hg eg hO hKt hKb hps I Ix M (fun l J Jx W hk m1 m2 _ hr=>hseq l J Jx W hk m1 m2 hr) hI hIx hM h0 hassign hbody hdone hstop
end
end
section
section
open Go.RowKit Go.Shelf
attribute [local go_sem] Oper.semAt_some
def PO (p:Nat×Bool):Array Value:= #[.int .u8 (p.1:Int),.bool p.2]
def abT:Option Value→Nat
 |some (.int _ n)=>n.toNat
 |_=>0
def zV (B bx:Nat) (X Y:World):Prop:=Below B X Y∧Y.heap[bx]? =X.heap[bx]?
theorem zV.trans {B bx X Y Z} (h:zV B bx X Y) (k:zV B bx Y Z):zV B bx X Z:=⟨h.1.trans k.1,k.2.trans h.2⟩
theorem zV.grown {B bx M W W' row} (hM:M≤W.heap.size) (hB:B≤M) (ha:bx<M) (g:W.grownBy W' row) (hr:∀r,row=some r→M≤r):zV B bx W W':=
 ⟨(Ae _ _).grown g om (fun r e=>by have:=hr r e;omega),g.block _ om (fun e=>by have:=hr _ e.symm;omega)⟩
theorem vG (n bx B N x:Nat) (w X) (hw:Boxed w bx 125 (.int .u64 (x:Int))) (hN:N≤w.heap.size) (hx:x<18446744073709551616) (hX:∀pre W,¬X pre W):
  rA n prog 246 #[.pointer (some ⟨bx,0,none⟩)] PO (fun r=>r=bx) (zV B bx) (Vi.zU x) w X:=by
 intro l J Jx W hK hJ hJx PQ bC h0;have hW:Boxed W bx 125 (.int .u64 (x:Int)):=hK.2.trans hw;have hNW:N≤W.heap.size:=Lt hN hK.1.size;have dh:=Al bC;have HX:Kept (∀pre W,¬Jx pre W):=⟨fun pre W h=>hX pre W (PQ pre W h)⟩
 have hJ2:=Al hJ;have Hx:=Al hx;clear hw hK hN bC hJ hX PQ hx;refine Bu.2 ?_;go_enter func246,ntmps246;go_wp2;go_loopw [] (fun wr=>∃pre x',Boxed wr bx 125 (.int .u64 ((x':Nat):Int))∧Kept (x'<18446744073709551616)∧N≤wr.heap.size∧Kept (Vi.zU x=pre++Vi.zU x')∧Kept (J pre wr)) (fun wr=>abT (wr.cell? ⟨bx,0,none⟩))
 case atStart=>exact⟨[],x,hW,Hx,hNW,⟨rfl⟩,⟨h0⟩⟩
 case round=>
  clear hW Hx h0 hNW;obtain⟨pre,x',hb,hx,hNr,hm,hj⟩:=hrel;have hc:=hb.cell;have hf:=hb.frozen;have Hb:=Al hb;clear hb;by_cases hlt:x'<128
  ·have hlt':(x':Int)<128:=by omega
   have hm2:Kept (Vi.zU x=pre++[(x',true)]):=⟨by rw[hm.1,Vi.oP hlt]⟩
   obtain⟨fn,tmps,assign,body,hy,qx⟩:=dh.1 pre (x',true) wr hj.1 ⟨[],by rw[hm2.1];simp⟩;unfold PO at hy;refine(BM (n:=n)).1 ?_
   gi_wp2
   refine⟨fun f h=>(by cases h),?_⟩
   gi_wp2
   refine(BM (n:=n)).1 ?_
   gi_wp2
   refine⟨(fun h=>by simp[Fence.wide]at h),qx.mono ?_⟩;rintro e W' (⟨rfl,hj',hb'⟩|⟨rfl,qV⟩)
   ·gi_wp2
    go_end0;exact⟨⟨_,rfl⟩,.inl (by rw[hm2.1];exact hj')⟩
   ·exact absurd qV (HX.1 _ _)
  ·have hge':(128:Int)≤(x':Int):=by omega
   have hm2:Kept (Vi.zU x=pre++[(x'%128,false)]++Vi.zU (x'/128)):=⟨by rw[hm.1,Vi.xW om];simp⟩
   obtain⟨fn,tmps,assign,body,hy,qx⟩:=dh.1 pre (x'%128,false) wr hj.1 ⟨Vi.zU (x'/128),by rw[hm2.1]⟩;unfold PO at hy;have ee:(((x'%128:Nat)):Int)=(x':Int)%128:=om;simp only[ee]at hy;refine(BM (n:=n)).1 ?_
   gi_wp2
   refine⟨(fun h=>by simp[Fence.wide]at h),qx.mono ?_⟩;rintro e W' (⟨rfl,hj',hb'⟩|⟨rfl,qV⟩)
   ·have hb2:Boxed W' bx 125 (.int .u64 (x':Int)):=hb'.2.trans Hb.1;have hc':=hb2.cell;have hf':=hb2.frozen;have Hb2:=Al hb2;have hz':=hb'.1.size;have XY:=Al hj';have hn0:Kept (abT (wr.cell? ⟨bx,0,none⟩)=x'):=⟨by rw[hc];rfl⟩
    clear hj' hb' hb2 hc hf
    gi_wp2
    go_roundw
    case rel=>
     refine⟨pre++[(x'%128,false)],x'/128,?_,⟨by have:=hx.1;omega⟩,by simp;omega,⟨hm2.1⟩,⟨hJ2.1 _ _ _ (some bx) XY.1 (grownBy_setCell' _ _ _) (fun r e=>by cases e;rfl)⟩⟩;rw[show((x'/128:Nat):Int)=(x':Int)/128 from om];exact Hb2.1.set _
    case measure=>
     rw[hn0.1,(Hb2.1.set _).cell];show((x':Int)/128).toNat<x';omega
   ·exact absurd qV (HX.1 _ _)
theorem u8_or128 (c:Nat) (h:c<128):bits .or .u8 (c:Int) 128=((c+128:Nat):Int):=by
 have:∀c:Fin 128,bits .or .u8 ((c.val:Nat):Int) 128=((c.val+128:Nat):Int):=by decide+kernel
 exact this ⟨c,h⟩
theorem ah.apart {w w' base n c A l row} (h:ah w base A n c l) (hg:w.grownBy w' row)
  (hr:∀r,row=some r→ab A≠some r∨∃o:Obj,w.heap[r]? =some o∧o.isCells=false):ah w' base A n c l:=by
 refine⟨h.1,?_⟩;rcases h.2 with hn|⟨g,cap,cur,hv,h1,h2,rest⟩
 ·exact .inl hn
 ·refine .inr ⟨g,cap,cur,hv,h1,?_,rest⟩;rw[hg.block g (Ge.1 h2).1]
  ·exact h2
  ·intro e';rcases hr g e'.symm with h3|⟨o,ho,hoc⟩
   ·injection hv with hv
    rw[hv]at h3;exact h3 rfl
   ·rw[h2]at ho;cases ho;cases hoc
theorem IP (x w):Calls prog 199 #[.int .u64 x] w fun e w'=>
  e= .returned (.func (.func 246) #[] #[.pointer (some ⟨w.heap.size,0,none⟩)])∧w'=w.alloc (.cells #[.int .u64 x] 125):=by
 go_enter func199,ntmps199;go_wp2;go_ret;exact⟨rfl,rfl⟩
def vH (w:World) (A:Option Addr) (base:Nat) (l:List UInt8) (pre:List (Nat×Bool)) (W:World):Prop:=
 ∃A' n' c',Boxed W w.heap.size 22 (.slice A' n' c')∧ah W base A' n' c' (l++pre.map Vi.enc1)∧(ab A'=ab A∨∃g,ab A'=some g∧w.heap.size+2≤g)∧w.grownBy W (ab A)
theorem vH.own {w A base l} (hA:∀g,ab A=some g→g<w.heap.size):aI (w.heap.size+2) (fun r=>r=w.heap.size+1) (vH w A base l):=by
 rintro s W W' row ⟨A',n',c',hb,ho,hab,hg0⟩ hg hr;have hrow:∀r,row=some r→w.heap.size<r:=fun r e=>by
  rcases hr r e with h|⟨h,_⟩<;>omega
 refine⟨A',n',c',hb.kept hg (fun e=>by have:=hrow _ e.symm;omega),ho.apart hg (fun r e=>?_),hab,hg0.andThen hg (fun r e=> .inl (by have:=hrow r e;omega))⟩;rcases hr r e with h|⟨_,h⟩
 ·left
  intro e2;rcases hab with h3|⟨g,h3,h4⟩
  ·rw[h3]at e2;have:=hA _ e2;omega
  ·rw[h3]at e2;cases e2;omega
 ·exact .inr h
theorem PR (w:World) (v t):Rd (w.alloc (.cells #[v] t)) (w.heap.size+1) 1 (some ⟨w.heap.size,0,none⟩) 1 1 [v]:=
 ⟨Nr _,by unfold maxLen;omega,rfl,fun _=>⟨_,0,rfl,om,fun i u hu=>by
  match i,hu with
  |0,hu=>simp at hu;subst hu;exact Aq w _ _ _ 0⟩⟩
theorem Nb {w base n c A l} (h:ah w base A n c l):∀j o,ab A=some j→w.heap[j]? =some o→o.isCells=true:=by
 intro j o ej hj;rcases h.2 with⟨hv,_⟩|⟨g',cap,cur,hv,_,hgb,_⟩
 ·injection hv with hv1;rw[hv1]at ej;cases ej
 ·injection hv with hv1
  rw[hv1]at ej;obtain rfl:g'=j:=by simpa[ab]using ej
  rw[hgb]at hj;cases hj;rfl
theorem vH.push {w W w5 A A' A4 base n' c' c4 l pre p v tmp} (hA:∀g,ab A=some g→g<w.heap.size)
  (hW:w.heap.size+2≤W.heap.size) (hb:Boxed W w.heap.size 22 (.slice A' n' c')) (ho:ah W base A' n' c' (l++pre.map Vi.enc1)) (hab:ab A'=ab A∨∃g,ab A'=some g∧w.heap.size+2≤g) (hg0:w.grownBy W (ab A))
  (hv:[v]=jX [Vi.enc1 p])
  (hown:w5.ownsRow base 5 1 (.slice A4 (n'+1) c4) (n'+1) (jX (l++pre.map Vi.enc1)++[v])) (hg:(W.alloc tmp).grownBy w5 (ab A')) (hat:ab A4=ab A'∨ab A4=some (W.alloc tmp).heap.size):
  KeepsFrom (w.heap.size+2) W (w5.setCell ⟨w.heap.size,0,none⟩ (.slice A4 (n'+1) c4))∧zV 0 (w.heap.size+1) W (w5.setCell ⟨w.heap.size,0,none⟩ (.slice A4 (n'+1) c4))∧
   vH w A base l (pre++[p]) (w5.setCell ⟨w.heap.size,0,none⟩ (.slice A4 (n'+1) c4)):=by
 have hlt:∀g,ab A'=some g→g<w.heap.size∨w.heap.size+2≤g:=by
  intro g hg;rcases hab with h|⟨g',h,h'⟩
  ·rw[h]at hg;exact .inl (hA g hg)
  ·rw[h]at hg;cases hg;exact .inr h'
 have IQ:∀g,ab A4=some g→g<w.heap.size∨w.heap.size+2≤g:=by
  intro g hg;rcases hat with h|h
  ·rw[h]at hg;exact hlt g hg
  ·rw[h]at hg;cases hg;right;simp;omega
 have hcl:∀j o,ab A'=some j→(W.alloc tmp).heap[j]? =some o→o.isCells=true:=Nb (ho.apart (Ga W tmp none) (fun r e=>by cases e));have hs1:(W.alloc tmp).heap.size=W.heap.size+1:=Ah;have hs5:=hg.size;have gs:=grownBy_setCell' w5 w.heap.size (.slice A4 (n'+1) c4);refine⟨(((Eu W _).trans (C9 hg hcl)).trans (CB _ _ _)).from _,⟨⟨?_,?_,?_,?_,fun k hk=>absurd hk om⟩,?_⟩,A4,n'+1,c4,?_,?_,?_,?_⟩
 ·rw[gs.os,hg.os];rfl
 ·rw[gs.tape,hg.tape];rfl
 ·rw[gs.output,hg.output];rfl
 ·have:=gs.size;omega
 ·rw[gs.block _ om Ah,hg.block _ om (fun e=>by rcases hlt _ e.symm with h|h<;>omega)];exact Ay _ _ _ om
 ·refine Boxed.set _ ((hb.alloc tmp).kept hg (fun e=>?_));rcases hlt _ e.symm with h|h<;>omega
 ·have e:jX (l++pre.map Vi.enc1)++[v]=jX (l++(pre++[p]).map Vi.enc1):=by rw[hv,←jG];simp
  rw[e]at hown;refine ah.apart hown gs (fun r e=> .inl fun e2=>?_);cases e;rcases IQ _ e2 with h|h<;>omega
 ·rcases hat with h|h
  ·rw[h];exact hab
  ·exact .inr ⟨_,h,om⟩
 ·refine((hg0.trans (Ga W tmp _)).andThen hg (fun j hj=>?_)).andThen gs (fun j hj=> .inl ?_)
  ·rcases hab with h|⟨g',h,h'⟩
   ·rw[h]at hj;exact .inr hj
   ·rw[h]at hj;cases hj;exact .inl om
  ·cases hj;omega
theorem di (A) (n c base x:Nat) (l w) (ho:ah w base A n c l) (hB:base≤w.heap.size) (hx:x<18446744073709551616) (hn:n≤140737488355000):
  Calls prog 145 #[.slice A n c,.int .u64 (x:Int)] w fun e w'=>∃A3 n3 c3,e= .returned (.slice A3 n3 c3)∧ah w' base A3 n3 c3 (l++Vi.enc x)∧w.grownBy w' (ab A)∧(ab A3=ab A∨∃g,ab A3=some g∧w.heap.size≤g):=by
 have hlen:=Al ho.len;have hgl:=Al (Vi.xY 9 x om);have hgb:=Al (Vi.UM x);have hA:=Al (fun g hg=>(ae ho g hg).2);have Ho:=Al ho;have Hx:=Al hx;clear ho hx;refine(Bu (n:=9)).1 ?_;refine CG func145 rfl trivial ?_ rfl;simp only[ntmps145,Cq,Lc,Ba,Nat.reduceAdd,Nat.reduceSub,Cv,Cx,Da,CJ,AB,Bc];refine BM.2 ?_;go_wp2_with (go_at_call 199;refine(IP _ _).mono ?_;rintro e w2 ⟨rfl,rfl⟩);have bB:=(Bo w 22 (.slice A n c)).alloc (.cells #[.int .u64 (x:Int)] 125);have bX:=Bo (w.alloc (.cells #[.slice A n c] 22)) 125 (.int .u64 (x:Int));have hsz:((w.alloc (.cells #[.slice A n c] 22)).alloc (.cells #[.int .u64 (x:Int)] 125)).heap.size=w.heap.size+2:=Ah;have g0:w.grownBy ((w.alloc (.cells #[.slice A n c] 22)).alloc (.cells #[.int .u64 (x:Int)] 125)) (ab A):=(Ga w _ _).trans (Ga _ _ _);have hO4:ah ((w.alloc (.cells #[.slice A n c] 22)).alloc (.cells #[.int .u64 (x:Int)] 125)) base A n c l:=(Ho.1.apart (Ga w _ none) (fun r e=>by cases e)).apart (Ga _ _ none) (fun r e=>by cases e);simp only[AV]at bX;generalize (w.alloc (.cells #[.slice A n c] 22)).alloc (.cells #[.int .u64 (x:Int)] 125)=w4 at*;refine(BM (n:=9)).1 ?_;refine jd Ai (gf:=246) (lb:= #[.pointer (some ⟨w.heap.size+1,0,none⟩)]) rfl (BR func246 kr rfl)
  (encs:=PO) (O:=fun r=>r=w.heap.size+1) (Kp:=zV 0 (w.heap.size+1)) (L:=Vi.zU x)
  (by rintro r rfl;omega) (fun h k=>h.trans k) (fun W W' row hW hg hr=>zV.grown hW om om hg hr) (fun _=>rfl)
  (vH w A base l) (fun _ _ _=>False)
  (fun pre p a₁ W=>vH w A base l pre W∧
   a₁={tmps:= #[.slice A n c,.int .u64 (x:Int),.pointer (some ⟨w.heap.size,0,none⟩),undef,.slice none 0 0,.int .u8 (p.1:Int),.bool p.2,.int .u64 (x:Int),.func (.func 246) #[] #[.pointer (some ⟨w.heap.size+1,0,none⟩)],
    .int .u8 (p.1:Int),.bool p.2,undef,undef,undef,undef,undef,undef,undef,undef,undef],defers:=[]})
  (vG 8 (w.heap.size+1) 0 (w.heap.size+2) x w4 _ bX om Hx.1 (fun pre W ⟨_,h⟩=>h))
  ?hI (fun _ _ _ _ _ h _ _=>h) ?hM ?h0 ?assign ?body ?done ?stop
 case hI=>rw[hsz];exact vH.own hA.1
 case hM=>
  rw[hsz];rintro pre p a₁ u W W' row ⟨hI,ha⟩ hgr hr;exact⟨vH.own hA.1 _ _ _ _ hI hgr hr,ha⟩
 case h0=>exact⟨A,n,c,bB,by simpa using hO4,.inl rfl,g0⟩
 case assign=>
  rintro l pre ⟨x,f⟩ W hI hpre hW;unfold PO
  gi_wp2
  exact⟨⟨Nr _,fun _ _ _ h _=>h⟩,⟨Ae _ _,rfl⟩,hI,trivial⟩
 case body=>
  rintro l pre ⟨x,f⟩ a₁ W ⟨⟨A',n',c',hb,ho,hab,hg0⟩,rfl⟩ hpre hW;have hl1:n'≤140737488355100:=by
   have h1:=ho.len;have h2:=hpre.length_le;have h3:=hgl.1;have h4:=hlen.1;simp at h1 h2;omega
  have hx:x<128:=hgb.1 (x,f) (hpre.subset Ah);have aj6:=hb.lt;have hcO:=hb.cell;have Hb:=Al hb;have vI:=Al ho;have Hg0:=Al hg0;clear hb ho hg0;obtain⟨i0,hi0,hz0,hz1,hz2⟩:=AY KH;cases f with
  |true=>
   have hv:Kept ([Value.int .u8 (x:Int)]=jX [Vi.enc1 (x,true)]):=⟨by simp[jX,bv,Vi.enc1];omega⟩
   have h1c:Kept (∀u∈[Value.int .u8 (x:Int)],u.oneCell'=true):=⟨by simp;rfl⟩
   gi_wp2_with (gi_at_builtin;refine eY _ rfl (.tmp 15) (.tmp 17) _ rfl base 5 i0 (.int .u8 0) 1 1 underlying22 hi0 hz0 hz1 hz2 rfl Ai A' n' c' _ rfl (Oa vI.1 _) (W.heap.size+1) _ _ _ [.int .u8 (x:Int)] rfl (PR W _ _) h1c.1 (by unfold maxLen;omega) om (by simp;omega) ?_;intro A4 c4 w5 au af bT;have nD:Boxed w5 w.heap.size 22 (.slice A' n' c'):=(Hb.1.alloc _).kept af (fun e=>by have:=hA.1;rcases hab with h|⟨g,h,h'⟩<;>rw[h]at e<;>first|(have:=this _ e.symm;omega)|(cases e;omega));have UQ:=nD.cell;have UR:=nD.frozen)
   rw[hsz];exact vH.push hA.1 om Hb.1 vI.1 hab Hg0.1 hv.1 au af bT
  |false=>
   have e128:=u8_or128 x hx;have hv:Kept ([Value.int .u8 ((x+128:Nat):Int)]=jX [Vi.enc1 (x,false)]):=⟨by simp[jX,bv,Vi.enc1];omega⟩
   have h1c:Kept (∀u∈[Value.int .u8 ((x+128:Nat):Int)],u.oneCell'=true):=⟨by simp;rfl⟩
   generalize x+128=y at*
   gi_wp2_with (gi_at_builtin;refine eY _ rfl (.tmp 15) (.tmp 17) _ rfl base 5 i0 (.int .u8 0) 1 1 underlying22 hi0 hz0 hz1 hz2 rfl Ai A' n' c' _ rfl (Oa vI.1 _) (W.heap.size+1) _ _ _ [.int .u8 (y:Int)] rfl (PR W _ _) h1c.1 (by unfold maxLen;omega) om (by simp;omega) ?_;intro A4 c4 w5 au af bT;have nD:Boxed w5 w.heap.size 22 (.slice A' n' c'):=(Hb.1.alloc _).kept af (fun e=>by have:=hA.1;rcases hab with h|⟨g,h,h'⟩<;>rw[h]at e<;>first|(have:=this _ e.symm;omega)|(cases e;omega));have UQ:=nD.cell;have UR:=nD.frozen)
   rw[hsz];exact vH.push hA.1 om Hb.1 vI.1 hab Hg0.1 hv.1 au af bT
 case done=>
  rintro D W hD ⟨A',n',c',hb,ho,hab,hg0⟩ hK;have hc:=hb.cell;have vI:=Al ho;have Hg0:=Al hg0;have Hab:=Al hab;clear ho hg0 hab;go_wp2;refine⟨Ah,.inl ⟨_,_,rfl,CV hK,?_⟩⟩;have hgo:W.grownBy (W.putObj D (.deferred none)) (some D):=Bn W D _;refine⟨_,results_tmp rfl _ _ _,A',n',c',rfl,vI.1.apart hgo (fun r e=>by cases e;exact .inr ⟨_,hK,rfl⟩),Hg0.1.andThen hgo (fun j e=> .inl (by cases e;omega)),?_⟩;rcases Hab.1 with h|⟨g,h,h'⟩
  ·exact .inl h
  ·exact .inr ⟨g,h,om⟩
 case stop=>
  rintro D c pre W _ _ h _;exact h.elim
end
end
section
section
open Go.RowKit Go.Shelf
theorem abV (x m k:Nat) (h:x<128^k) (hlt:x+m%128*128^k<18446744073709551616):
  bits .or .u64 (x:Int) (IntKind.u64.wrap ((m:Int)%128*2^ (7*k)))=((x+m%128*128^k:Nat):Int):=by
 have e1:(m:Int)%128*2^ (7*k)=((m%128*128^k:Nat):Int):=by
  rw[Int.natCast_mul,Int.natCast_pow,Int.natCast_emod,Int.pow_mul]
  rfl
 have e2:IntKind.u64.wrap ((m%128*128^k:Nat):Int)=((m%128*128^k:Nat):Int):=by
  rw[Bw];omega
 rw[e1,e2,bits_or_u64_nat _ _ om om,Vi.Y0 x (m%128) k h]
def IU (r:Nat×Int×Nat):Value:= .tuple #[.int .u64 (r.1:Int),.int .i64 r.2.1,.int .i64 (r.2.2:Int)]
theorem rC (A n c B l at_ w) (hv:aY w B A n c l) (h0: -9223372036854775808≤at_) (h1:at_≤9223372036854775807):
  Calls prog 118 #[.slice A n c,.int .i64 at_] w fun e w'=>e= .returned (IU (Vi.get l at_))∧w=w':=by
 have hlen:=Al hv.len;have hlc:=hv.1;have hcm:=hv.2.1;unfold maxLen at hcm;have Hv:=Al hv;clear hv;obtain⟨r,hr⟩:∃r,Vi.get l at_=r:=⟨_,rfl⟩
 rw[hr];have Hr:=Al hr;clear hr;by_cases hneg:at_<0
 ·have hfin:Kept (r=(0,0,2)):=⟨by rw[←Hr.1,Vi.get,Ps0 (.inl hneg)]⟩
  go_enter func118,ntmps118;go_wp2;go_ret3;exact⟨by rw[hfin.1];rfl,rfl⟩
 ·obtain⟨a,rfl⟩:=Cr (show 0≤at_ from om);by_cases hbig:n<a
  ·have hfin:Kept (r=(0,0,2)):=⟨by rw[←Hr.1,Vi.get,Ps0 (.inr (by have:=hlen.1;omega))]⟩
   go_enter func118,ntmps118;go_wp2;go_ret3;exact⟨by rw[hfin.1];rfl,rfl⟩
  ·have hget:Kept (Vi.get l (a:Int)=if(Vi.fP (l.drop a) 0 0).2.2=0 then((Vi.fP (l.drop a) 0 0).1,(a:Int)+(Vi.fP (l.drop a) 0 0).2.1,0)else(0,0,(Vi.fP (l.drop a) 0 0).2.2)):=⟨by
    rw[Vi.get,Ng (by have:=hlen.1;omega)]
    rfl⟩
   obtain⟨q,hq⟩:∃q,Vi.fP (l.drop a) 0 0=q:=⟨_,rfl⟩
   have Hq:=Al hq;have Hd:=Al (Hv.1.drop (k:=a) om);have hfin:Kept (r=if q.2.2=0 then(q.1,(a:Int)+q.2.1,0)else(0,0,q.2.2)):=⟨by rw[←Hr.1,hget.1,hq]⟩
   clear hq hget;have hnn:(0:Int)≤(n:Int)-(a:Int):=om;by_cases hna:n=a
   ·subst hna;have hq0:Kept (q=(0,0,3)):=⟨by
     rw[←Hq.1,qW (by have:=hlen.1;omega)]
     rfl⟩
    by_cases XZ:c=n
    ·subst XZ;go_enter func118,ntmps118;go_wp2;go_loop [7,22] (fun x i=>x= .int .u64 0∧i= .int .i64 0) (fun _ _=>0)
     case atStart=>exact⟨rfl,rfl⟩
     case round=>
      obtain⟨rfl,rfl⟩:=hrel;go_wp2;go_ret3;exact⟨by rw[hfin.1,hq0.1];rfl,rfl⟩
    ·have hlt1:(n:Int)< (c:Int):=by omega
     go_enter func118,ntmps118;go_wp2;go_loop [7,22] (fun x i=>x= .int .u64 0∧i= .int .i64 0) (fun _ _=>0)
     case atStart=>exact⟨rfl,rfl⟩
     case round=>
      obtain⟨rfl,rfl⟩:=hrel;go_wp2;go_ret3;exact⟨by rw[hfin.1,hq0.1];rfl,rfl⟩
   ·obtain⟨b,off,rfl,hb,-⟩:=Hv.1.at_ (k:=a) (by have:=hlen.1;omega);rw[Ng om]at Hd;simp only[EF,add_plain]at Hd;have hlt1:(a:Int)< (c:Int):=om;have hlt2:(a:Int)< (n:Int):=om;have hcn:(n:Int)-(a:Int)≤(c:Int)-(a:Int):=om;go_enter func118,ntmps118;go_wp2;go_loop [7,22] (fun xv i=>∃k x:Nat,k≤9∧k≤n-a∧i= .int .i64 k∧xv= .int .u64 x∧Kept (x<128^k)∧Kept (Vi.fP (l.drop (a+k)) k x=q)) (fun _ i=>n-a-(intOf i).toNat)
    case atStart=>exact⟨0,0,om,om,rfl,rfl,⟨Ai⟩,⟨Hq.1⟩⟩
    case round=>
     obtain⟨k,x,hk9,hk,rfl,rfl,hx,hg⟩:=hrel;by_cases hlt:k<n-a
     ·have hkl:k< (l.drop a).length:=by rw[kz];have:=hlen.1;omega
      obtain⟨b',off',e,_,hcell⟩:=Hd.1.at_ hkl;simp only[gU,Ce,BO]at e;obtain⟨rfl,rfl⟩:=e;have hak:a+k<l.length:=by have:=hlen.1;omega
      have hgc:Kept (Vi.fP (l[a+k]::l.drop (a+k+1)) k x=q):=⟨by rw[←oQ hak];exact hg.1⟩
      rw[Dc]at hcell;have hki:(k:Int)< (n:Int)-(a:Int):=om;have hch:=l[a+k].toNat_lt;generalize l[a+k]=ch at*;by_cases h9:k=9∧1<ch.toNat
      ·obtain⟨rfl,h91⟩:=h9;have hq6:Kept (q=(0,0,6)):=⟨by rw[←hgc.1,Vi.bZ,Ps0 ⟨rfl,h91⟩]⟩
       have akb:(1:Int)< (ch.toNat:Int):=om;go_wp2;go_ret3;exact⟨by rw[hfin.1,hq6.1];rfl,rfl⟩
      ·have Y5:Kept (ch.toNat=0∧0<k∧q=(0,0,5)∨¬(ch.toNat=0∧0<k)∧ch.toNat<128∧q=(x+ch.toNat%128*128^k,k+1,0)∨
         128≤ch.toNat∧Vi.fP (l.drop (a+(k+1))) (k+1) (x+ch.toNat%128*128^k)=q):=⟨by
        have h:=hgc.1;rw[Vi.bZ,Ng h9]at h;by_cases c1:ch.toNat=0∧0<k
        ·rw[Ps0 c1]at h;exact .inl ⟨c1.1,c1.2,h.symm⟩
        ·rw[Ng c1]at h;by_cases c2:ch.toNat<128
         ·rw[Ps0 c2]at h;exact .inr (.inl ⟨c1,c2,h.symm⟩)
         ·rw[Ng c2]at h;exact .inr (.inr ⟨om,h⟩)⟩
       have X8:=Al (Vi.UN hx.1 hk9 h9);have Y6:=Al (Vi.PN (c:=ch.toNat) hx.1);have hor:=Al (abV x ch.toNat k hx.1 X8.1);clear hgc hg;generalize ch.toNat=m at*;by_cases hm0:m=0∧0<k
       ·obtain⟨rfl,hk0⟩:=hm0;have hq5:Kept (q=(0,0,5)):=⟨by
         rcases Y5.1 with⟨_,_,h⟩|⟨h,_⟩|⟨h,_⟩
         ·exact h
         ·exact absurd ⟨rfl,hk0⟩ h
         ·omega⟩
        have hk0':(0:Int)< (k:Int):=om;by_cases UT:k=9
        ·subst UT;go_wp2;go_ret3;exact⟨by rw[hfin.1,hq5.1];rfl,rfl⟩
        ·have UU:((k:Int)==9)=false:=by simp;omega
         go_wp2;go_ret3;exact⟨by rw[hfin.1,hq5.1];rfl,rfl⟩
       ·by_cases hm:m<128
        ·have hq3:Kept (q=(x+m%128*128^k,k+1,0)):=⟨by
          rcases Y5.1 with⟨h1,h2,_⟩|⟨_,_,h⟩|⟨h,_⟩
          ·exact absurd ⟨h1,h2⟩ hm0
          ·exact h
          ·omega⟩
         have hm':(m:Int)<128:=om;have hend:Kept (.tuple #[.int .u64 ((x+m%128*128^k:Nat):Int),.int .i64 ((a:Int)+(k:Int)+1),.int .i64 0]=IU r):=⟨by
          rw[hfin.1,hq3.1,Ps0 rfl,IU,Int.natCast_add k 1,Int.add_assoc];rfl⟩
         by_cases afh:m=0
         ·have Y7:((m:Int)==0)=true:=by simp;omega
          have hk0:(k:Int)≤0:=om;have UU:((k:Int)==9)=false:=by simp;omega
          clear afh hm0;go_wp2;go_ret3;exact⟨by show Ending.returned (.tuple #[.int .u64 (bits .or .u64 (x:Int) (IntKind.u64.wrap ((m:Int)%128*2^ (7*k)))),.int .i64 ((a:Int)+(k:Int)+1),.int .i64 0])=_;rw[hor.1,hend.1],rfl⟩
         ·have Y7:((m:Int)==0)=false:=by simp;omega
          by_cases UT:k=9
          ·have hm1:(m:Int)≤1:=by omega
           have UU:((k:Int)==9)=true:=by simp;omega
           clear UT hm0;go_wp2;go_ret3;exact⟨by show Ending.returned (.tuple #[.int .u64 (bits .or .u64 (x:Int) (IntKind.u64.wrap ((m:Int)%128*2^ (7*k)))),.int .i64 ((a:Int)+(k:Int)+1),.int .i64 0])=_;rw[hor.1,hend.1],rfl⟩
          ·have UU:((k:Int)==9)=false:=by simp;omega
           clear UT hm0;go_wp2;go_ret3;exact⟨by show Ending.returned (.tuple #[.int .u64 (bits .or .u64 (x:Int) (IntKind.u64.wrap ((m:Int)%128*2^ (7*k)))),.int .i64 ((a:Int)+(k:Int)+1),.int .i64 0])=_;rw[hor.1,hend.1],rfl⟩
        ·have UU:((k:Int)==9)=false:=by simp;omega
         have hm':(128:Int)≤(m:Int):=om;have Y7:((m:Int)==0)=false:=by simp;omega
         have akc:(k:Int)≤8:=om;have hnext:Kept (Vi.fP (l.drop (a+(k+1))) (k+1) (x+m%128*128^k)=q):=⟨by
          rcases Y5.1 with⟨h1,h2,_⟩|⟨_,h,_⟩|⟨_,h⟩
          ·exact absurd ⟨h1,h2⟩ hm0
          ·omega
          ·exact h⟩
         go_wp2;go_round
         case rel=>exact⟨k+1,x+m%128*128^k,om,om,by go_num,by rw[hor.1],Y6,hnext⟩
         case measure=>simp[intOf];omega
     ·have hq0:Kept (q=(0,0,3)):=⟨by
       rw[←hg.1,qW (by have:=hlen.1;omega)]
       rfl⟩
      obtain rfl:k=n-a:=om;go_wp2;go_ret3;exact⟨by rw[hfin.1,hq0.1];rfl,rfl⟩
end
end
section
section
open Go.RowKit Go.Shelf
theorem ah.Y8 (w:World) (v x) (hv:v=bv x):ah (w.alloc (.cells #[v] 5)) w.heap.size (some ⟨w.heap.size,0,none⟩) 1 1 [x]:=by
 subst hv;exact⟨rfl,.inr ⟨w.heap.size,1,#[bv x],rfl,Nr _,Aw w _,Nr _,by unfold maxLen;omega,rfl,rfl⟩⟩
end
end
section
namespace bP
def st (s:Nat):Nat:=(s/2)^^^ (s%2*3988292384)
def it:Nat→Nat→Nat
 |0,s=>s
 |n+1,s=>it n (st s)
def upd (s:Nat) (l:List UInt8):Nat:=l.foldl (fun s c=>it 8 (s^^^c.toNat)) s
theorem PW (a b):(a^^^b)/2=(a/2)^^^ (b/2):=by
 have:=Nat.shiftRight_xor_distrib (a:=a) (b:=b) (i:=1);simpa[Ch]using this
theorem PY (a b):(a^^^b)%2=(a%2)^^^ (b%2):=by
 have:=Nat.xor_mod_two_pow (a:=a) (b:=b) (n:=1);simpa using this
theorem Y9 (a b):st (a^^^b)=st a^^^st b:=by
 unfold st;rw[PW,PY];rcases CZ a with ha|ha<;>rcases CZ b with hb|hb<;>rw[ha,hb]<;>simp
 ·ac_rfl
 ·ac_rfl
 ·have:a/2^^^3988292384^^^ (b/2^^^3988292384)=a/2^^^b/2^^^ (3988292384^^^3988292384):=by ac_rfl
  rw[this];simp
theorem X9 {s} (h:s<4294967296):st s<4294967296:=by
 unfold st;have h1:s/2<2^32:=om;have h2:s%2*3988292384<2^32:=om;exact BN h1 h2
theorem UW {s} (h:s<4294967296) (h0:st s=0):s=0:=by
 unfold st at h0;have h1:s/2=s%2*3988292384:=by
  have:=congrArg (fun x=>x^^^ (s%2*3988292384)) h0;simpa[Dq]using this
 omega
theorem IV (n a b):it n (a^^^b)=it n a^^^it n b:=by
 induction n generalizing a b with
 |zero=>rfl
 |succ n ih=>simp only[it,Y9,ih]
theorem abW (n) {s} (h:s<4294967296):it n s<4294967296:=by
 induction n generalizing s with
 |zero=>exact h
 |succ n ih=>exact ih (X9 h)
theorem UX (n) {s} (h:s<4294967296) (h0:it n s=0):s=0:=by
 induction n generalizing s with
 |zero=>exact h0
 |succ n ih=>exact UW h (ih (X9 h) h0)
theorem PZ (m n s):it (m+n) s=it n (it m s):=by
 induction m generalizing s with
 |zero=>simp[it]
 |succ m ih=>rw[Nat.succ_add];simp only[it];exact ih _
theorem Za (n) {a b} (ha:a<4294967296) (hb:b<4294967296) (h:it n a=it n b):a=b:=by
 have h0:it n (a^^^b)=0:=by rw[IV,h,Ey]
 have:=UX n (BN (n:=32) ha hb) h0;have h2:=congrArg (fun x=>x^^^b) this;simpa[Dq]using h2
theorem KL (k):st (2*k)=k:=by simp[st]
def tab:List Nat:=[0x00000000,0x1db71064,0x3b6e20c8,0x26d930ac,0x76dc4190,0x6b6b51f4,0x4db26158,0x5005713c,0xedb88320,0xf00f9344,0xd6d6a3e8,0xcb61b38c,0x9b64c2b0,0x86d3d2d4,0xa00ae278,0xbdbdf21c]
theorem it4 (s):tab.getD (s%16) 0^^^ (s/16)=it 4 s:=by
 have e:s=(s%16)^^^ (2*(2*(2*(2*(s/16))))):=by
  apply Nat.eq_of_testBit_eq;intro i;rw[Nat.testBit_xor];have e16:(2*(2*(2*(2*(s/16)))))=2^4*(s/2^4):=om;rw[e16,show s%16=s%2^4 from rfl,Nat.testBit_mod_two_pow,Nat.testBit_two_pow_mul,Nat.testBit_div_two_pow];by_cases h:i<4
  ·have:¬i≥4:=by omega
   simp[h,this]
  ·have h4:i≥4:=by omega
   simp[h,h4]
 have h:s%16<16:=Nat.mod_lt _ Ai;have hl:∀n,n<16→tab.getD n 0=it 4 n:=by decide+kernel
 conv=>rhs;rw[e,IV]
 rw[hl _ h]
 congr 1
 simp only[it,KL]
theorem P8 (i):tab.getD i 0<4294967296:=by
 by_cases h:i<16
 ·have:∀n,n<16→tab.getD n 0<4294967296:=by decide
  exact this i h
 ·have:tab.length≤i:=by simp[tab];omega
  simp[List.getD,Ca this]
theorem mI (s a b):upd s (a++b)=upd (upd s a) b:=by simp[upd,List.foldl_append]
theorem abX (c:UInt8):c.toNat<4294967296:=by have:=c.toNat_lt;omega
theorem sD {s} (l) (h:s<4294967296):upd s l<4294967296:=by
 induction l generalizing s with
 |nil=>exact h
 |cons c l ih=>exact ih (abW _ (BN (n:=32) h (abX c)))
theorem P9 (a b k) (h:a<2^k):a^^^ (2^k*b)=2^k*b+a:=by
 apply Nat.eq_of_testBit_eq;intro i;rw[Nat.testBit_xor,Nat.testBit_two_pow_mul,Nat.testBit_two_pow_mul_add _ h];by_cases hi:i<k
 ·have h2:¬k≤i:=by omega
  simp[hi,h2]
 ·have:a.testBit i=false:=Nat.testBit_lt_two_pow (jE h (kF Ai om));simp[hi,this];omega
def sum (l:List UInt8):Nat:=4294967295^^^upd 4294967295 l
theorem sum_lt (l):sum l<4294967296:=BN (n:=32) Ai (sD l Ai)
theorem vJ (s) (l:List UInt8) (k) (h:k<l.length):upd s (l.take (k+1))=it 8 (upd s (l.take k)^^^l[k].toNat):=by
 rw[Ts h,mI];rfl
theorem sub_eq_xor (u) (h:u<4294967296):4294967295^^^u=4294967295-u:=by
 apply Nat.eq_of_testBit_eq;intro i;rw[Nat.testBit_xor,show(4294967295:Nat)-u=2^32-(u+1)from om,Nat.testBit_two_pow_sub_succ h,show(4294967295:Nat)=2^32-1 from rfl,Nat.testBit_two_pow_sub_one];by_cases hi:i<32
 ·simp[hi]
 ·have:u.testBit i=false:=Nat.testBit_lt_two_pow (jE h (kF (n:=2) Ai (show 32≤i from om)));simp[hi,this]
theorem UY (l):sum l=4294967295-upd 4294967295 l:=sub_eq_xor _ (sD l Ai)
def four (s:Nat):List UInt8:=[UInt8.ofNat s,UInt8.ofNat (s/256),UInt8.ofNat (s/65536),UInt8.ofNat (s/16777216)]
theorem oV (s k) (h:k≤4):((four s).take k).length=k:=by simp[four];omega
theorem Nc (l s k) (h:k<4):l++(four s).take (k+1)=l++(four s).take k++[UInt8.ofNat (s/2^ (8*k))]:=by
 rcases k with _|_|_|_|k<;>simp[four]
 omega
def app (l:List UInt8):List UInt8:=l++four (sum l)
def bN (l:List UInt8):Bool:=decide (4≤l.length)&& (l==app (l.take (l.length-4)))
theorem Nf (l) (h:l.length<4):bN l=false:=by simp[bN];omega
theorem Qa (l) (h:4≤l.length):bN l=(l.drop (l.length-4)==four (sum (l.take (l.length-4)))):=by
 unfold bN app;rw[BI h,Bool.true_and,Bool.eq_iff_iff,beq_iff_eq,beq_iff_eq];constructor
 ·intro e;have:=congrArg (fun x=>x.drop (l.length-4)) e;rw[List.drop_append]at this;simpa[jD,show min (l.length-4) l.length=l.length-4 from om]using this
 ·intro e;rw[←e,je]
theorem Qb (s):(four s).length=4:=rfl
theorem Qc (s k:Nat) (h:k<4):(four s)[k]? =some (UInt8.ofNat (s/2^ (8*k))):=by
 rcases k with _|_|_|_|k<;>simp[four]
 omega
theorem Nh (l:List UInt8) (s m k) (h:k<4) (hl:m+k<l.length) (x) (hx:x=UInt8.ofNat (s/2^ (8*k))) (he:(l.drop m).take k=(four s).take k):
  (l[m+k]=x→(l.drop m).take (k+1)=(four s).take (k+1))∧(¬l[m+k]=x→(l.drop m==four s)=false):=by
 have hg:(four s)[k]? =some x:=by rw[Qc s k h,hx]
 have hd:(l.drop m)[k]? =some l[m+k]:=by rw[List.getElem?_drop,kC hl]
 constructor
 ·intro e;rw[List.take_add_one,List.take_add_one,he,hg,hd,e]
 ·intro e;rw[beq_eq_false_iff_ne];intro h2;rw[h2,hg]at hd
  injection hd with h3
  exact e h3.symm
theorem UZ (x):it 8 (256*x)=x:=by
 rw[show 256*x=2*(2*(2*(2*(2*(2*(2*(2*x)))))))from om];simp only[it,KL]
theorem afi (s a b c d):
  it 8 (it 8 (it 8 (it 8 (s^^^a)^^^b)^^^c)^^^d)=it 32 (s^^^a^^^ (256*b)^^^ (256*(256*c))^^^ (256*(256*(256*d)))):=by
 simp only[show(32:Nat)=8+(8+(8+8))from rfl,PZ,IV,UZ]
theorem x9 (a b k) (h:a<2^k):a^^^ (2^k*b)=2^k*b+a:=P9 a b k h
def num (a b c d:UInt8):Nat:=a.toNat+256*b.toNat+65536*c.toNat+16777216*d.toNat
theorem Zc (a b c d):num a b c d<4294967296:=by
 have:=a.toNat_lt;have:=b.toNat_lt;have:=c.toNat_lt;have:=d.toNat_lt;unfold num;omega
theorem U0 (a b c d):a.toNat^^^ (256*b.toNat)^^^ (256*(256*c.toNat))^^^ (256*(256*(256*d.toNat)))=num a b c d:=by
 have ha:=a.toNat_lt;have hb:=b.toNat_lt;have hc:=c.toNat_lt;have hd:=d.toNat_lt;have e1:=x9 a.toNat b.toNat 8 om;have e2:=x9 (2^8*b.toNat+a.toNat) c.toNat 16 om;have e3:=x9 (2^16*c.toNat+(2^8*b.toNat+a.toNat)) d.toNat 24 om;rw[show 256*(256*c.toNat)=2^16*c.toNat from om,show 256*(256*(256*d.toNat))=2^24*d.toNat from om,show 256*b.toNat=2^8*b.toNat from om,e1,e2,e3];unfold num;omega
theorem EO (s a b c d):upd s [a,b,c,d]=it 32 (s^^^num a b c d):=by
 rw[←U0,←Dq,←Dq,←Dq,←afi];rfl
theorem EP (s:Nat) (h:s<4294967296):num (UInt8.ofNat s) (UInt8.ofNat (s/256)) (UInt8.ofNat (s/65536)) (UInt8.ofNat (s/16777216))=s:=by
 unfold num;simp only[DR];omega
theorem Qd (a b c d):four (num a b c d)=[a,b,c,d]:=by
 have ha:=a.toNat_lt;have hb:=b.toNat_lt;have hc:=c.toNat_lt;have hd:=d.toNat_lt;unfold four num;have h (x:UInt8) (n:Nat) (e:n%256=x.toNat):UInt8.ofNat n=x:=by apply UInt8.toNat_inj.1;rw[DR];exact e
 rw[h a _ om,h b _ om,h c _ om,h d _ om]
theorem U1 (l):bN l=true↔4≤l.length∧upd 4294967295 l=it 32 4294967295:=by
 unfold bN;by_cases h:4≤l.length
 ·simp only[h,decide_true,Bool.true_and,true_and,beq_iff_eq];have hl:(l.drop (l.length-4)).length=4:=by rw[kz];omega
  have hs:l=l.take (l.length-4)++l.drop (l.length-4):=(je _ _).symm;generalize l.take (l.length-4)=p at*;generalize l.drop (l.length-4)=t at*
  match t,hl with
  |[a,b,c,d],_=>
  subst hs;have hp:=sD p (s:=4294967295) Ai;have hn:=Zc a b c d;unfold app;rw[List.append_cancel_left_eq,mI,EO];constructor
  ·intro e;have:num a b c d=sum p:=by
    have e2:=EP (sum p) (sum_lt p);unfold four at e
    injection e with e0 e;injection e with e1 e;injection e with e3 e;injection e with e4 e
    rw[e0,e1,e3,e4];exact e2
   rw[this];unfold sum
   congr 1
   rw[Nat.xor_comm,Dq,Ey,Nat.xor_zero]
  ·intro e;have e1:=Za 32 (BN (n:=32) hp hn) Ai e;have e2:sum p=num a b c d:=by
    unfold sum;generalize upd 4294967295 p=u at*;rw[←e1,Nat.xor_comm u,Dq,Ey,Nat.xor_zero]
   rw[e2,Qd]
 ·simp[h]
theorem KM (l):bN (app l)=true:=by
 rw[U1];refine⟨by simp[app,four],?_⟩;unfold app four;rw[mI,EO,EP _ (sum_lt _)];unfold sum
 congr 1
 rw[Nat.xor_comm,Dq,Ey,Nat.xor_zero]
end bP
end
section
section
open Go.RowKit
def gH (w:World):Prop:=∀i,i<16→w.cell? ⟨1,i,none⟩=some (.int .u32 ((bP.tab.getD i 0:Nat):Int))
theorem gH.lt {w} (h:gH w):1<w.heap.size:=Bd w _ (h 0 Ai)
theorem gH.below {w w'} (h:gH w) (hb:Below w.heap.size w w'):gH w':=fun i hi=>(hb.cell (p:=⟨_,i,none⟩) h.lt).trans (h i hi)
theorem gH.alloc {w} (h:gH w) (o):gH (w.alloc o):=h.below ((Ae _ w).alloc Aj o)
theorem U2 (s:Nat) (A n c l w B) (hs:s<4294967296) (hv:aY w B A n c l) (ht:gH w):
  Calls prog 201 #[.int .u32 (s:Int),.slice A n c] w fun e w'=>e= .returned (.int .u32 ((bP.upd s l:Nat):Int))∧w=w':=by
 obtain rfl:=hv.len;have hlc:=hv.1;have hcm:=hv.2.1;unfold maxLen at hcm;go_enter func201,ntmps201;go_wp2;go_loop [0,9] (fun t i=>∃k:Nat,k≤l.length∧i= .int .i64 k∧t= .int .u32 ((bP.upd s (l.take k):Nat):Int)) (fun _ i=>l.length-(intOf i).toNat)
 case atStart=>exact⟨0,bf _,rfl,rfl⟩
 case round=>
  obtain⟨k,hk,rfl,rfl⟩:=hrel;by_cases hlt:k<l.length
  ·obtain⟨b,off,rfl,hb,hck⟩:=hv.at_ hlt;have hU:=bP.sD (l.take k) hs;have hC:l[k].toNat<256:=l[k].toNat_lt;have hst:=bP.vJ s l k hlt;generalize bP.upd s (l.take k)=u at*;generalize l[k]=x at*;clear hv;obtain⟨a,ha⟩:∃a,a=u^^^x.toNat:=⟨_,rfl⟩
   have haU:a<4294967296:=by rw[ha];exact BN (n:=32) hU om
   have e1:bits .xor .u32 (u:Int) (x.toNat:Int)=(a:Int):=by rw[ha];exact u32_xor_nat _ _ hU om
   have e2:bits .and .u32 (a:Int) 15=((a%16:Nat):Int):=by rw[←nat_mask4];exact u32_and_nat _ 15 haU om
   have t1:=ht (a%16) om;have h4:=bP.it4 a;have hT1:=bP.P8 (a%16);generalize bP.tab.getD (a%16) 0=y1 at*;obtain⟨b1,hb1⟩:∃b,b=y1^^^a/16:=⟨_,rfl⟩
   have hbU:b1<4294967296:=by rw[hb1];exact BN (n:=32) hT1 om
   have e3:bits .xor .u32 (y1:Int) ((a:Int)/16)=(b1:Int):=by rw[hb1,←u32_xor_nat y1 (a/16) hT1 om];rfl
   have e4:bits .and .u32 (b1:Int) 15=((b1%16:Nat):Int):=by rw[←nat_mask4];exact u32_and_nat _ 15 hbU om
   have t2:=ht (b1%16) om;have h5:=bP.it4 b1;have wP:=bP.P8 (b1%16);generalize bP.tab.getD (b1%16) 0=y2 at*;obtain⟨b2,hb2⟩:∃b,b=y2^^^b1/16:=⟨_,rfl⟩
   have e5:bits .xor .u32 (y2:Int) ((b1:Int)/16)=(b2:Int):=by rw[hb2,←u32_xor_nat y2 (b1/16) wP om];rfl
   have fin:Hid (b2=bP.upd s (l.take (k+1))):=by
    show b2=_;rw[hst,←ha,show(8:Nat)=4+4 from rfl,bP.PZ,←h4,←hb1,←h5,hb2]
   clear ha hb1 hb2 hst h4 h5 hT1 wP;go_wp2;go_round
   case rel=>exact⟨k+1,om,by go_num,by rw[fin.out]⟩
   case measure=>simp[intOf];omega
  ·obtain rfl:k=l.length:=by omega
   rw[List.take_length];go_wp2;go_ret;exact⟨rfl,rfl⟩
end
end
section
section
open Go.RowKit
theorem KN (A n c l w B) (hv:aY w B A n c l) (ht:gH w):
  Calls prog 148 #[.slice A n c] w fun e w'=>e= .returned (.int .u32 ((bP.sum l:Nat):Int))∧w=w':=by
 have hU:=bP.sD l (s:=4294967295) Ai;have hS:Hid (bP.sum l=4294967295-bP.upd 4294967295 l):=bP.UY l;go_enter func148,ntmps148;go_wp2_with (go_at_call 201;refine(U2 4294967295 _ _ _ l _ B Ai hv ht).mono ?_;rintro e w' ⟨rfl,rfl⟩);go_ret;refine⟨gF ?_,rfl⟩;rw[hS.out,←bP.sub_eq_xor _ hU];exact u32_xor_nat 4294967295 _ Ai hU
end
end
section
section
open Go.RowKit
theorem Ni (A1 A2 n1 n2 c1 c2 l1 l2 w B1 B2) (h1:aY w B1 A1 n1 c1 l1) (h2:aY w B2 A2 n2 c2 l2):
  Calls prog 18 #[.slice A1 n1 c1,.slice A2 n2 c2] w fun e w'=>e= .returned (.bool (l1==l2))∧w=w':=by
 have k1:=bJ w B1 A1 n1 c1 l1 h1;have k2:=bJ w B2 A2 n2 c2 l2 h2;go_enter func18,ntmps18;go_wp2;go_ret;exact⟨rfl,rfl⟩
theorem sF (A n c l w B) (hv:aY w B A n c l) (ht:gH w) (hB:B≤w.heap.size) (hl:l.length≤140737488355232):
  Calls prog 91 #[.slice A n c] w fun e w'=>∃A2 n2 c2,e= .returned (.slice A2 n2 c2)∧ah w' w.heap.size A2 n2 c2 (bP.app l)∧Below w.heap.size w w':=by
 obtain rfl:=hv.len;have hlc:=hv.1;have hcm:=hv.2.1;have hsz:=ht.lt;unfold maxLen at hcm;go_enter func91,ntmps91;go_wp2_with (first
  |(at_builtin;refine eB rfl (.tmp 6) (.tmp 7) rfl w.heap.size _ _ _ [] rfl (ah.made w _ Aj) B _ _ _ l rfl (Rd.alloc hv hB _) om Ah ?_;intro A2 c2 w1 hown1 hgrow1 U3;have hb1:Below w.heap.size w w1:=((Ae _ w).alloc Aj _).grown hgrow1 Ah (by simp[ab])))
 refine(KN _ _ _ l _ B (hv.below (hb1.mono hB)) (ht.below hb1)).mono ?_;rintro e w2 ⟨rfl,rfl⟩;go_wp2_with fail;have hS:=bP.sum_lt l;generalize hs:bP.sum l=s at*;have Hs:=hide hs;clear hs hgrow1 U3;go_loopw [3,11] (fun v i wr=>∃k:Nat,k≤4∧i= .int .i64 k∧∃A3 n3 c3,v= .slice A3 n3 c3∧ah wr w.heap.size A3 n3 c3 (l++(bP.four s).take k)∧Below w.heap.size w wr) (fun _ i _=>4-(intOf i).toNat)
 case atStart=>exact⟨0,bf _,rfl,A2,_,c2,rfl,by simpa using hown1,hb1⟩
 case round=>
  obtain⟨k,hk,rfl,A3,n3,c3,rfl,ho,hb⟩:=hrel;by_cases hlt:k<4
  ·obtain⟨x,hx⟩:∃x:UInt8,x=UInt8.ofNat (s/2^ (8*k)):=⟨_,rfl⟩
   have e1:(s:Int)/2^ (8*k)%256=(x.toNat:Int):=by rw[hx,DR];simp
   have Hx:Hid (l++(bP.four s).take (k+1)=l++(bP.four s).take k++[x]):=by rw[hx];exact bP.Nc l s k hlt
   have Hn:=ho.len;have Hf:=bP.oV s k om;rw[La,Hf]at Hn;have rD:n3+1≤140737488355328:=om;have hz:=hb.size;clear hx Hn Hf;go_wp2_with (first
    |(at_builtin;refine eB rfl (.tmp 14) (.tmp 20) rfl w.heap.size A3 n3 c3 _ rfl (Oa ho _) (wr.heap.size+1) _ _ _ [x] rfl (aY.one wr x) rD (by simp;omega) ?_;intro A4 c4 w4 au af bT))
   go_roundw
   case rel=>
    refine⟨k+1,om,by go_num,A4,_,c4,rfl,?_,?_⟩
    ·rw[Hx.out];exact au
    ·exact(hb.alloc hz _).grown af (by simp;omega) (fun g hg=>(ae ho g hg).1)
   case measure=>simp[intOf];omega
  ·obtain rfl:k=4:=by omega
   go_wp2;go_ret;refine⟨A3,n3,c3,rfl,?_,hb⟩;unfold bP.app;rw[Hs.out];exact ho
theorem wQ (A n c l w B) (hv:aY w B A n c l) (ht:gH w):
  Calls prog 116 #[.slice A n c] w fun e w'=>e= .returned (.bool (bP.bN l))∧w=w':=by
 have hlc:=hv.1;have hcm:=hv.2.1;have hn:=hide hv.len;unfold maxLen at hcm;by_cases h4:4≤n
 ·obtain⟨b,off,rfl,hb,hcell⟩:=hv.2.2.2 om;have hdrop:=hide (bP.Qa l (by rw[←hn.out];exact h4));obtain⟨m,rfl⟩:∃m,n=m+4:=⟨n-4,om⟩
  rw[←hn.out,Bj]at hdrop;have htk:aY w B (some ⟨b,off,none⟩) m c (l.take m):=hv.take om;clear hv;go_enter func116,ntmps116;go_wp2_with fail;refine(KN _ _ _ (l.take m) _ B htk ht).mono ?_;rintro e w2 ⟨rfl,rfl⟩;go_wp2_with fail;have hS:=bP.sum_lt (l.take m);generalize bP.sum (l.take m)=s at*;go_loop [20] (fun i=>∃k:Nat,k≤4∧i= .int .i64 k∧Hid ((l.drop m).take k=(bP.four s).take k)) (fun i=>4-(intOf i).toNat)
  case atStart=>exact⟨0,bf _,rfl,rfl⟩
  case round=>
   obtain⟨k,hk,rfl,heq⟩:=hrel;by_cases hlt:k<4
   ·have hkl:m+k<l.length:=by have:=hn.out;omega
    have hck:=hcell (m+k) (bv l[m+k]) (by simp[jX,hkl]);rw[←iw]at hck;unfold bv at hck;obtain⟨x,hx⟩:∃x:UInt8,x=UInt8.ofNat (s/2^ (8*k)):=⟨_,rfl⟩
    have e1:(s:Int)/2^ (8*k)%256=(x.toNat:Int):=by rw[hx,DR];simp
    have hstep:=hide (bP.Nh l s m k hlt hkl x hx heq.out);clear hx;generalize l[m+k]=y at*;by_cases hxy:y=x
    ·have ht:((y.toNat:Int) !=(x.toNat:Int))=false:=by rw[hxy];simp
     go_wp2;go_round
     case rel=>exact⟨k+1,om,by go_num,hstep.out.1 hxy⟩
     case measure=>simp[intOf];omega
    ·have ht:((y.toNat:Int) !=(x.toNat:Int))=true:=by
      rw[bne_iff_ne];intro h;exact hxy (UInt8.toNat_inj.1 om)
     go_wp2;go_ret;refine⟨kE ?_,rfl⟩;rw[hdrop.out,hstep.out.2 hxy]
   ·obtain rfl:k=4:=by omega
    go_wp2;go_ret;refine⟨kE ?_,rfl⟩;rw[hdrop.out];have:=heq.out;have hl4:(l.drop m).length=4:=by rw[kz];have:=hn.out;omega
    rw[jc om,jc (by rw[bP.Qb];omega)]at this;rw[this,beq_self_eq_true]
 ·have hs:=bP.Nf l (by rw[←hn.out];omega);rw[hs];go_enter func116,ntmps116;go_wp2;go_ret;exact⟨rfl,rfl⟩
end
end
end Go.Proofs.YtongopommlghgaaGreatDoor
