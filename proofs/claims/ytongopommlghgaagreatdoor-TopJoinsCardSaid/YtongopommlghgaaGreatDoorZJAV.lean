/- The card of TopJoins: for every input the law returns true, and every argument reads afterwards as it read before; the three tables that the code reads are tied to the program text. The texts of this claim are written by a program out of longer ones (names shortened, spaces struck), for the judge takes 1,500,000 bytes. -/
import Derived.Test.YtongopommlghgaaGreatDoorZJAT
import Derived.Test.YtongopommlghgaaGreatDoorZJAU
namespace Go.Proofs.YtongopommlghgaaGreatDoor
set_option maxRecDepth 100000
set_option maxHeartbeats 0
open _root_.Go.Proofs.Tryz
namespace topJoins
open Go.ChangeShapes Go.WideShapes Go.ChangeAt Go.RowKit
open Go.ChangeMaps (open_string shut_string)
theorem table {W} (h:laidMetH prog Rows.topJoinsRow.laid W):Gl W:=KE h
noncomputable def ahQ (h:Array Obj):Array Obj:=h.modify 2 fun
 | .cells _ t frozen=> .cells ([0,1,56,2,57,49,28,3,61,58,42,50,38,29,17,4,62,47,59,36,45,43,51,22,53,39,33,30,24,18,12,5,63,55,48,27,60,41,37,16,46,35,44,21,52,32,23,11,54,26,40,15,34,20,31,10,25,14,19,9,13,8,7,6].map (.int .u8)).toArray t frozen
 |o=>o
noncomputable def ahR (h:Array Obj):Array Obj:=h.modify 1 fun
 | .cells _ t frozen=> .cells ([0,498536548,997073096,651767980,1994146192,1802195444,1303535960,1342533948,3988292384,4027552580,3604390888,3412177804,2607071920,2262029012,2685067896,3183342108].map (.int .u32)).toArray t frozen
 |o=>o
noncomputable def ahS (h:Array Obj):Array Obj:=h.modify 0 fun
 | .cells _ t frozen=> .cells Tm.cells.toArray t frozen
 |o=>o
noncomputable def qw (os:Os):World:=
 {World.holding prog os ⟨#[],#[],[]⟩with heap:=ahS (ahR (ahQ (World.holding prog os ⟨#[],#[],[]⟩).heap))}
theorem Uz (os):laidMet prog Rows.topJoinsRow.laid ((qw os).forCall (fun _ _=>0) ⟨#[],#[.slice none 0 0,.slice none 0 0],[]⟩).memory:=
 laidMet_of_run' 8 kr kr
theorem reads (os) {H} (enc:TypeId×Value→H):∃places,DataW.whole enc prog ((qw os).forCall (fun _ _=>0) ⟨#[],#[.slice none 0 0,.slice none 0 0],[]⟩).memory Tryz.f7.params.toList Rows.topJoinsSpec.vars false (#[.slice none 0 0,.slice none 0 0]:Array Value).toList 8=some ([.nil,.nil],[],places):=
 ⟨[],kr⟩
theorem lifted (os) (started:os.Started) (H) (enc:TypeId×Value→H) (F):
  ReturnsInHanded {} Tryz.checked os 7 .any ((OpenSpec.ofChange Rows.topJoinsSpec).preRow enc prog Tryz.f7 Rows.topJoinsRow.domain false Rows.topJoinsRow.laid) (((OpenSpec.ofChange Rows.topJoinsSpec).at F).post enc prog Tryz.f7 false true false false):=by
 obtain⟨places,hx⟩:=reads os enc;refine returnsInHanded_of_row (C:=Tryz.checked) (s:=OpenSpec.ofChange Rows.topJoinsSpec) Open.own started kr func7
  (witness_row_at (enc:=enc) (C:=Tryz.checked) false (qw os) #[.slice none 0 0,.slice none 0 0] rfl kr kr kr
   (OpenSpec.preRow_of_cond 8 hx kr (fun k hk=>by cases hk) kr (Uz os))) ?_
 intro W base args ds gs before hval0 hW _ _ hsz0 hL _ _;have hval:∀(j:Nat) t v,Tryz.f7.params[j]? =some t→args[j]? =some v→Value.okWide prog W .any base t v:=hval0;have hW':=hW;obtain⟨p,q,hA0,hV,rfl,hfz,hnd⟩:=hW;have hA:DataW.TrodAll enc prog W 0 (fun _=>true) true Tryz.f7.params.toList args.toList ds p:=hA0;have hsz1:(DataW.weightsEach prog (Tryz.f7.params.toList++(OpenSpec.ofChange Rows.topJoinsSpec).bare.plain.varTypes prog) (ds++gs)).all (· ≤reachBytes)=true:=hsz0;rw[Tryz.params7]at hA hval hsz1;obtain⟨v0,vs0,d0,ds0,p0,q0,hargs,rfl,rfl,h0,r0⟩:=trodAll_cons hA;obtain⟨v1,vs1,d1,ds1,p1,q1,rfl,rfl,rfl,h1,r1⟩:=trodAll_cons r0;obtain⟨rfl,rfl,rfl⟩:=trodAll_nil r1;obtain rfl:args= #[v0,v1]:=by cases args;simp_all
 obtain⟨rfl,rfl⟩:=trodVars_none hV;have hsz:(DataW.weightsEach prog ([24,24]++[]) ([d0,d1]++[])).all (· ≤reachBytes)=true:=hsz1;clear hA0 hval0;have k0:=h0;have lt0:=Open.lt k0;obtain⟨A0,n0,c0,rfl⟩:=okWide_slice underlying24 (hval 0 24 v0 rfl rfl);obtain⟨b0s,rd0,ahT⟩:=Open.Uy h0;have k1:=h1;have lt1:=Open.lt k1;obtain⟨A1,n1,c1,rfl⟩:=okWide_slice underlying24 (hval 1 24 v1 rfl rfl);obtain⟨b1s,xq,ahU⟩:=Open.Uy h1;refine(Pz A0 A1 n0 c0 n1 c1 b0s b1s W rd0 xq ahT ahU (table hL)).mono fun e W' ⟨he,aX⟩=>?_
 subst he;exact⟨_,rfl,_,_,_,[],_,[],hW',trodAll_mk1 (shut_bool underlying4 _),(trodAll_cons_mk (Below.trod Open.laidOut kr (Ew kr) k0 aX lt0) (trodAll_cons_mk (Below.trod Open.laidOut kr (Ew kr) k1 aX lt1) trodAll_mk0)),rfl,aX.frame _,fun h=>by cases h⟩
theorem said:Rows.TopJoinsSaid:=
 OpenClaim.holds_of_cond 7 Tryz.f7 rfl rfl rfl rfl rfl rfl rfl ⟨rfl,rfl,rfl,rfl,rfl⟩ rfl rfl rfl rfl rfl kr func7 closed
  (Ew kr) (by unfold Func.isWrapper;first|(rw[Ps0 (by decide+kernel)];kernel_rfl)|(rw[Ng (by decide+kernel)];exact⟨rfl,rfl⟩))
  (fun os started H enc _ F=>by rw[OpenClaim.pre_eq_preRow];exact lifted os started H enc F)
theorem plain (f fn) (hf:Tryz.pinned.checked.prog.funcNamed "tsblock/tsblocktop.TopJoins" =some f) (hfn:Tryz.pinned.checked.prog.funcs[f]? =some fn):
  true=Tryz.pinned.checked.prog.looks []∧∀(j:Nat) t,fn.params[j]? =some t→Tryz.pinned.checked.prog.wantsStandIn t=false:=by
 obtain rfl:f=7:=Oj ((show prog.funcNamed "tsblock/tsblocktop.TopJoins" =some 7 by kernel_rfl).symm.trans hf)|>.symm
 obtain rfl:fn=Tryz.f7:=(Oj (func7.symm.trans hfn)).symm;refine⟨kr,fun j t ht=>?_⟩;rw[Tryz.params7]at ht;have hm:t∈[24,24]:=by simpa using Array.mem_of_getElem? ht
 have hall:([24,24].all fun u=>!prog.wantsStandIn u)=true:=kr;exact(show prog.wantsStandIn t=false by simpa using Ef.1 hall t hm)
theorem card:Rows.TopJoinsCardSaid:=
 Claim7.holds_tied_plain_at .later [] _ _ _ _ said (fun _ h=>by cases h) kr (fun _ h=>by cases h) topJoins_row_tie rfl ⟨rfl,rfl⟩ kr rfl plain kr
end topJoins
end Go.Proofs.YtongopommlghgaaGreatDoor
