/- AggregateGroups: a coarser grouping's sums and the total are sums of the finer groups. For every input. -/
import Derived.Test.YtehkcnbodcdijaaGreatDoorA24
import Derived.Test.YtehkcnbodcdijaaGreatDoorA25
set_option maxHeartbeats 8000000
set_option linter.all false
set_option maxRecDepth 100000
namespace Go.Proofs.YtehkcnbodcdijaaGreatDoor.aggregateGroups
open Go.ChangeShapes Go.WideShapes Go.ChangeAt Go.RowKit
open Go.Proofs.Tryz
open Go.Proofs.YtehkcnbodcdijaaGreatDoor.Go.Proofs.YtehkcnbodcdijaaGreatDoor.aggregateGroups
theorem aqU:prog.inPlace 4=Rows.aggregateGroupsRow.inPlace:=Ok
theorem ahC:prog.unfollowed 4=true:=Ok
theorem at7:prog.recurses 4=true:=by unfold Program.recurses;rw[ahC];rfl
theorem aqV:prog.varsNamed 4=Rows.aggregateGroupsRow.named:=Ok
theorem closed:joinedFacts prog 4 Tryz.f4 (OpenSpec.ofChange Rows.aggregateGroupsSpec).bare Rows.aggregateGroupsRow=true:=by unfold joinedFacts;rw[aqU,ahC,at7,aqV];simp only[cV];and_intros;all_goals kernel_rfl
theorem contract(H:Type)(enc:TypeId×Value->H)(W:au)(base:Nat)(args:Array Value)(ds gs:List (DataW H))(before:List MemPlace)
 (hval:∀(j:Nat) t v,Tryz.f4.params[j]? =some t->args[j]? =some v->Value.okWide prog W .any base t v)
 (hW:DataW.Whole enc prog Tryz.f4.params.toList Rows.aggregateGroupsSpec.vars false W args.toList ds gs before) (hL:laidMetH prog Rows.aggregateGroupsRow.laid W):
 Calls prog 4 args W fun e W'=>∃v,e= .returned v/\Rows.aggregateGroupsSpec.post enc prog Tryz.f4 false true false false W args v W':=by
 have hW':=hW;obtain⟨p,q,hA0,hV,rfl,hfz,hnd⟩:=hW;have hA:DataW.TrodAll enc prog W 0 (fun _=>true) true Tryz.f4.params.toList args.toList ds p:=hA0;rw[Tryz.params4] at hA hval;obtain⟨v0,vs0,d0,ds0,p0,q0,hargs,rfl,rfl,h0,r0⟩:=trodAll_cons hA;obtain⟨rfl,rfl,rfl⟩:=trodAll_nil r0;obtain rfl:args= #[v0]:=by cases args;simp_all
 obtain⟨rfl,rfl⟩:=trodVars_none hV;obtain⟨A,zs,c,rfl,hn,hx1,hx2,hwz,hcz⟩:=amb underlying22 underlying3 Ok (hval 0 _ _ rfl rfl) h0;obtain⟨t',hsl⟩:=apN hcz;refine(ajE anA alO alB t' A zs c W hx1 (by unfold maxLen at hx2;omega) hsl (fun z hz=>amI (hwz z hz)) (table hL) (aqB hL)).mono fun e W' he=> ?_;obtain⟨rfl,hx⟩:=he;exact⟨_,rfl,alT aoo rfl underlying4 rfl (by rw[Tryz.params4];decide+kernel) hW' rfl (fun _=>ok_one Ok rfl (okWide_bool_mk underlying4 _)) hx⟩
theorem reads(os:Os){H:Type}(enc:TypeId×Value->H):∃places,DataW.whole enc prog ((world os).forCall (fun _ _=>0) ⟨#[],#[.slice none 0 0],[]⟩).memory Tryz.f4.params.toList Rows.aggregateGroupsSpec.vars false #[Value.slice none 0 0].toList 8=some ([.nil],[],places):=
 ⟨[],by kernel_rfl⟩
theorem lifted(os:Os)(started:os.Started)(H:Type)(enc:TypeId×Value->H)(F:Stop.Interp):
 ReturnsInHanded {} Tryz.checked os 4 .any ((OpenSpec.ofChange Rows.aggregateGroupsSpec).preRow enc prog Tryz.f4 Rows.aggregateGroupsRow.domain false Rows.aggregateGroupsRow.laid) (((OpenSpec.ofChange Rows.aggregateGroupsSpec).at F).post enc prog Tryz.f4 false true false false):=by
 obtain⟨places,hx⟩:=reads os enc;refine returnsInHanded_of_row (C:=Tryz.checked) (s:=OpenSpec.ofChange Rows.aggregateGroupsSpec) anX started Ok func4
  (witness_row_atRef (enc:=enc) (C:=Tryz.checked) false (world os) #[.slice none 0 0] rfl Ok Ok Ok
    (OpenSpec.preRow_of_cond 8 hx Ok Oe Ok (aop os))) ?_
 intro W base args ds gs before hval hW _ _ _ hL _ _;exact contract H enc W base args ds gs before hval hW hL
theorem said:Rows.AggregateGroupsSaid:=
 OpenClaim.holds_of_cond 4 Tryz.f4 rfl rfl rfl rfl rfl rfl rfl ⟨rfl,rfl,rfl,rfl,rfl⟩ rfl rfl rfl rfl rfl Ok func4 closed
  (of_decide_eq_true Ok) (by unfold Func.isWrapper;first|(rw[if_pos axq];kernel_rfl)|(rw[if_neg axq];exact⟨rfl,rfl⟩))
  (fun os started H enc _ F=>by rw[OpenClaim.pre_eq_preRow];exact lifted os started H enc F)
theorem plain(f:FuncId)(fn:Go.Func)(hf:Tryz.pinned.checked.prog.funcNamed "joinlearn/joinlearnlaw11.AggregateGroups" =some f)(hfn:Tryz.pinned.checked.prog.funcs[f]? =some fn):
 true=Tryz.pinned.checked.prog.looks []/\∀(j:Nat) t,fn.params[j]? =some t->Tryz.pinned.checked.prog.wantsStandIn t=false:=by
 obtain rfl:f=4:=Option.some.inj ((show prog.funcNamed "joinlearn/joinlearnlaw11.AggregateGroups" =some 4 by kernel_rfl).symm.trans hf)|>.symm;obtain rfl:fn=Tryz.f4:=(Option.some.inj (func4.symm.trans hfn)).symm;refine⟨by kernel_rfl,fun j t ht=> ?_⟩;rw[Tryz.params4] at ht;have hm:=Array.mem_of_getElem? ht;simp only[List.mem_toArray,aK,bJ,or_false] at hm;subst hm;exact(show prog.wantsStandIn 22=false by kernel_rfl)
theorem card:Rows.AggregateGroupsCardSaid:=
 Claim7.holds_tied_plain_at .later [] _ _ _ _ said Oe Ok Oe aggregateGroups_row_tie rfl ⟨rfl,rfl⟩ Ok rfl plain goes
end Go.Proofs.YtehkcnbodcdijaaGreatDoor.aggregateGroups
