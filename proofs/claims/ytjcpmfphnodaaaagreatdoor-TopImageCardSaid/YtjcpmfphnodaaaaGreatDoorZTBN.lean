/- The card of TopImage: for every input the law returns true, and every argument reads afterwards as it read before; the three tables that the code reads are tied to the program text. The texts of this claim are written by a program out of longer ones (names shortened, spaces struck), for the judge takes 1,500,000 bytes. -/
import Derived.Test.YtjcpmfphnodaaaaGreatDoorZTBM
import Derived.Test.YtjcpmfphnodaaaaGreatDoorZTBJ
namespace Go.Proofs.YtjcpmfphnodaaaaGreatDoor
set_option maxRecDepth 100000
set_option maxHeartbeats 0
open _root_.Go.Proofs.Tryz
namespace topImage
open Go.ChangeShapes Go.WideShapes Go.ChangeAt Go.RowKit
open Go.ChangeMaps (open_string shut_string)
theorem table {W} (h:laidMetH prog Rows.topImageRow.laid W):Gl W:=uU h
noncomputable def ZG (h:Array Obj):Array Obj:=h.modify 2 fun
 | .cells _ t frozen=> .cells #[.int .u8 0,.int .u8 1,.int .u8 56,.int .u8 2,.int .u8 57,.int .u8 49,.int .u8 28,.int .u8 3,.int .u8 61,.int .u8 58,.int .u8 42,.int .u8 50,.int .u8 38,.int .u8 29,.int .u8 17,.int .u8 4,.int .u8 62,.int .u8 47,.int .u8 59,.int .u8 36,.int .u8 45,.int .u8 43,.int .u8 51,.int .u8 22,.int .u8 53,.int .u8 39,.int .u8 33,.int .u8 30,.int .u8 24,.int .u8 18,.int .u8 12,.int .u8 5,.int .u8 63,.int .u8 55,.int .u8 48,.int .u8 27,.int .u8 60,.int .u8 41,.int .u8 37,.int .u8 16,.int .u8 46,.int .u8 35,.int .u8 44,.int .u8 21,.int .u8 52,.int .u8 32,.int .u8 23,.int .u8 11,.int .u8 54,.int .u8 26,.int .u8 40,.int .u8 15,.int .u8 34,.int .u8 20,.int .u8 31,.int .u8 10,.int .u8 25,.int .u8 14,.int .u8 19,.int .u8 9,.int .u8 13,.int .u8 8,.int .u8 7,.int .u8 6] t frozen
 |o=>o
noncomputable def ZH (h:Array Obj):Array Obj:=h.modify 1 fun
 | .cells _ t frozen=> .cells #[.int .u32 0,.int .u32 498536548,.int .u32 997073096,.int .u32 651767980,.int .u32 1994146192,.int .u32 1802195444,.int .u32 1303535960,.int .u32 1342533948,.int .u32 3988292384,.int .u32 4027552580,.int .u32 3604390888,.int .u32 3412177804,.int .u32 2607071920,.int .u32 2262029012,.int .u32 2685067896,.int .u32 3183342108] t frozen
 |o=>o
noncomputable def ZI (h:Array Obj):Array Obj:=h.modify 0 fun
 | .cells _ t frozen=> .cells #[.int .u64 0,.int .i64 1,.int .i64 0,.int .u64 2,.int .i64 2,.int .i64 7,.int .u64 6,.int .i64 3,.int .i64 12,.int .u64 14,.int .i64 4,.int .i64 32,.int .u64 15,.int .i64 4,.int .i64 64] t frozen
 |o=>o
noncomputable def fO (os:Os):World:=
 {World.holding prog os ⟨#[],#[],[]⟩with heap:=ZI (ZH (ZG (World.holding prog os ⟨#[],#[],[]⟩).heap))}
theorem uV (os):laidMet prog Rows.topImageRow.laid ((fO os).forCall (fun _ _=>0) ⟨#[],#[.slice none 0 0],[]⟩).memory:=
 laidMet_of_run' 8 kr kr
theorem reads (os) {H} (enc:TypeId×Value→H):∃places,DataW.whole enc prog ((fO os).forCall (fun _ _=>0) ⟨#[],#[.slice none 0 0],[]⟩).memory Tryz.f3.params.toList Rows.topImageSpec.vars false (#[.slice none 0 0]:Array Value).toList 8=some ([.nil],[],places):=
 ⟨[],kr⟩
theorem lifted (os) (started:os.Started) (H) (enc:TypeId×Value→H) (F):
  ReturnsInHanded {} Tryz.checked os 3 .any ((OpenSpec.ofChange Rows.topImageSpec).preRow enc prog Tryz.f3 Rows.topImageRow.domain false Rows.topImageRow.laid) (((OpenSpec.ofChange Rows.topImageSpec).at F).post enc prog Tryz.f3 false true false false):=by
 obtain⟨places,hx⟩:=reads os enc;refine returnsInHanded_of_row (C:=Tryz.checked) (s:=OpenSpec.ofChange Rows.topImageSpec) Open.own started kr func3
  (witness_row_at (enc:=enc) (C:=Tryz.checked) false (fO os) #[.slice none 0 0] rfl kr kr kr
   (OpenSpec.preRow_of_cond 8 hx kr (fun k hk=>by cases hk) kr (uV os))) ?_
 intro W base args ds gs before hval0 hW _ _ hsz0 hL _ _;have hval:∀(j:Nat) t v,Tryz.f3.params[j]? =some t→args[j]? =some v→Value.okWide prog W .any base t v:=hval0;have hW':=hW;obtain⟨p,q,hA0,hV,rfl,hfz,hnd⟩:=hW;have hA:DataW.TrodAll enc prog W 0 (fun _=>true) true Tryz.f3.params.toList args.toList ds p:=hA0;have hsz1:(DataW.weightsEach prog (Tryz.f3.params.toList++(OpenSpec.ofChange Rows.topImageSpec).bare.plain.varTypes prog) (ds++gs)).all (· ≤reachBytes)=true:=hsz0;rw[Tryz.params3]at hA hval hsz1;obtain⟨v0,vs0,d0,ds0,p0,q0,hargs,rfl,rfl,h0,r0⟩:=trodAll_cons hA;obtain⟨rfl,rfl,rfl⟩:=trodAll_nil r0;obtain rfl:args= #[v0]:=by cases args;simp_all
 obtain⟨rfl,rfl⟩:=trodVars_none hV;have hsz:(DataW.weightsEach prog ([22]++[]) ([d0]++[])).all (· ≤reachBytes)=true:=hsz1;clear hA0 hval0;have k0:=h0;have lt0:=Open.lt k0;obtain⟨A0,n0,c0,rfl⟩:=okWide_slice underlying22 (hval 0 22 v0 rfl rfl);obtain⟨⟨l0,rd0⟩,sq0⟩:=Open.bytes h0;have s0:=Open.NQ hsz (j:=0) rfl rfl sq0;refine(NR A0 n0 c0 l0 W rd0 (table hL)).mono fun e W' ⟨he,aU⟩=>?_
 subst he;exact⟨_,rfl,_,_,_,[],_,[],hW',trodAll_mk1 (shut_bool underlying4 _),(trodAll_cons_mk (Below.trod Open.laidOut kr (Dt kr) k0 aU lt0) trodAll_mk0),rfl,aU.frame _,fun h=>by cases h⟩
theorem said:Rows.TopImageSaid:=
 OpenClaim.holds_of_cond 3 Tryz.f3 rfl rfl rfl rfl rfl rfl rfl ⟨rfl,rfl,rfl,rfl,rfl⟩ rfl rfl rfl rfl rfl kr func3 closed
  (Dt kr) (by unfold Func.isWrapper;first|(rw[Ps0 (by decide+kernel)];kernel_rfl)|(rw[Ng (by decide+kernel)];exact⟨rfl,rfl⟩))
  (fun os started H enc _ F=>by rw[OpenClaim.pre_eq_preRow];exact lifted os started H enc F)
theorem plain (f) (fn) (hf:Tryz.pinned.checked.prog.funcNamed "tsblock/tsblocktop.TopImage" =some f) (hfn:Tryz.pinned.checked.prog.funcs[f]? =some fn):
  true=Tryz.pinned.checked.prog.looks []∧∀(j:Nat) t,fn.params[j]? =some t→Tryz.pinned.checked.prog.wantsStandIn t=false:=by
 obtain rfl:f=3:=Oj ((show prog.funcNamed "tsblock/tsblocktop.TopImage" =some 3 by kernel_rfl).symm.trans hf)|>.symm
 obtain rfl:fn=Tryz.f3:=(Oj (func3.symm.trans hfn)).symm;refine⟨kr,fun j t ht=>?_⟩;rw[Tryz.params3]at ht;have hm:t∈[22]:=by simpa using Array.mem_of_getElem? ht
 have hall:([22].all fun u=>!prog.wantsStandIn u)=true:=kr;exact(show prog.wantsStandIn t=false by simpa using Df.1 hall t hm)
theorem card:Rows.TopImageCardSaid:=
 Claim7.holds_tied_plain_at .later [] _ _ _ _ said (fun _ h=>by cases h) kr (fun _ h=>by cases h) topImage_row_tie rfl ⟨rfl,rfl⟩ kr rfl plain kr
end topImage
end Go.Proofs.YtjcpmfphnodaaaaGreatDoor
