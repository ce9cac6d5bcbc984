/- AggregateSplits: the tuples with a value less than a bound, with a value that is not, and without one are all tuples; a batch is its aggregates one by one. For every input. -/
import Derived.Test.YtadbchhdjbghkaaGreatDoorA8
import Derived.Test.YtadbchhdjbghkaaGreatDoorA24
import Derived.Test.YtadbchhdjbghkaaGreatDoorA25
set_option maxHeartbeats 8000000
set_option linter.all false
set_option maxRecDepth 100000
namespace Go.Proofs.YtadbchhdjbghkaaGreatDoor.aggregateSplits
open Go.ChangeShapes Go.WideShapes Go.ChangeAt Go.RowKit
open Go.Proofs.Tryz
theorem apu:prog.inPlace 3=Rows.aggregateSplitsRow.inPlace:=Ok
theorem agv:prog.unfollowed 3=true:=Ok
theorem asv:prog.recurses 3=true:=by unfold Program.recurses;rw[agv];rfl
theorem apv:prog.varsNamed 3=Rows.aggregateSplitsRow.named:=Ok
theorem closed:joinedFacts prog 3 Tryz.f3 (OpenSpec.ofChange Rows.aggregateSplitsSpec).bare Rows.aggregateSplitsRow=true:=by unfold joinedFacts;rw[apu,agv,asv,apv];simp only[cZ];and_intros;all_goals kernel_rfl
theorem table{W:au}(h:laidMetH prog Rows.aggregateSplitsRow.laid W):dW W:=
 ah0 Ok Ok ast Ok underlying330 underlying209 Ok Ok h
theorem contract(H:Type)(enc:TypeId×Value->H)(W:au)(base:Nat)(args:Array Value)(ds gs:List (DataW H))(before:List MemPlace)
 (hval:∀(j:Nat) t v,Tryz.f3.params[j]? =some t->args[j]? =some v->Value.okWide prog W .any base t v)
 (hW:DataW.Whole enc prog Tryz.f3.params.toList Rows.aggregateSplitsSpec.vars false W args.toList ds gs before) (hL:laidMetH prog Rows.aggregateSplitsRow.laid W):
 Calls prog 3 args W fun e W'=>∃v,e= .returned v/\Rows.aggregateSplitsSpec.post enc prog Tryz.f3 false true false false W args v W':=by
 have hW':=hW;obtain⟨p,q,hA0,hV,rfl,hfz,hnd⟩:=hW;have hA:DataW.TrodAll enc prog W 0 (fun _=>true) true Tryz.f3.params.toList args.toList ds p:=hA0;rw[Tryz.params3] at hA hval;obtain⟨v0,vs0,d0,ds0,p0,q0,hargs,rfl,rfl,h0,r0⟩:=trodAll_cons hA;obtain⟨v1,vs1,d1,ds1,p1,q1,hargs1,rfl,rfl,h1,r1⟩:=trodAll_cons r0;obtain⟨rfl,rfl,rfl⟩:=trodAll_nil r1;subst hargs1;obtain rfl:args= #[v0,v1]:=by cases args;simp_all
 obtain⟨rfl,rfl⟩:=trodVars_none hV;obtain⟨A,zs,c,rfl,hn,hx1,hx2,hwz,hcz⟩:=akM underlying22 underlying3 Ok (hval 0 _ _ rfl rfl) h0;obtain⟨t',hsl⟩:=aol hcz;obtain⟨x,rfl,rfl,rfl,hwx⟩:=open_int underlying5 (hval 1 _ _ rfl rfl) h1;obtain⟨y,rfl⟩:=alV x hwx;refine(ah1 ama t' A zs c y.toNat W hx1 (by unfold maxLen at hx2;omega) hsl (fun z hz=>ale (hwz z hz)) y.toNat_lt (table hL)).mono fun e W' he=> ?_;obtain⟨rfl,hx⟩:=he;exact⟨_,rfl,akw amZ rfl underlying4 rfl (by rw[Tryz.params3];decide+kernel) hW' rfl (fun _=>ok_one Ok rfl (okWide_bool_mk underlying4 _)) hx⟩
theorem am0(os:Os):laidMetH prog Rows.aggregateSplitsRow.laid ((Rz os).forCall (fun _ _=>0) ⟨#[],#[.slice none 0 0,.int .u8 0],[]⟩).memory:=by rw[MakeChecks.laidMetH_plain _ _ _ Ok];exact laidMet_of_run' 8 Ok Ok
theorem reads(os:Os){H:Type}(enc:TypeId×Value->H):∃places,DataW.whole enc prog ((Rz os).forCall (fun _ _=>0) ⟨#[],#[.slice none 0 0,.int .u8 0],[]⟩).memory Tryz.f3.params.toList Rows.aggregateSplitsSpec.vars false #[Value.slice none 0 0,.int .u8 0].toList 8=some ([.nil,.lit (.int .u8 0)],[],places):=
 ⟨[],by kernel_rfl⟩
theorem lifted(os:Os)(started:os.Started)(H:Type)(enc:TypeId×Value->H)(F:Stop.Interp):
 ReturnsInHanded {} Tryz.checked os 3 .any ((OpenSpec.ofChange Rows.aggregateSplitsSpec).preRow enc prog Tryz.f3 Rows.aggregateSplitsRow.domain false Rows.aggregateSplitsRow.laid) (((OpenSpec.ofChange Rows.aggregateSplitsSpec).at F).post enc prog Tryz.f3 false true false false):=by
 obtain⟨places,hx⟩:=reads os enc;refine returnsInHanded_of_row (C:=Tryz.checked) (s:=OpenSpec.ofChange Rows.aggregateSplitsSpec) amv started Ok func3
  (witness_row_at (enc:=enc) (C:=Tryz.checked) false (Rz os) #[.slice none 0 0,.int .u8 0] rfl Ok Ok Ok
    (OpenSpec.preRow_of_cond 8 hx Ok Oe Ok (am0 os))) ?_
 intro W base args ds gs before hval hW _ _ _ hL _ _;exact contract H enc W base args ds gs before hval hW hL
theorem said:Rows.AggregateSplitsSaid:=
 OpenClaim.holds_of_cond 3 Tryz.f3 rfl rfl rfl rfl rfl rfl rfl ⟨rfl,rfl,rfl,rfl,rfl⟩ rfl rfl rfl rfl rfl Ok func3 closed
  (of_decide_eq_true Ok) (by unfold Func.isWrapper;first|(rw[if_pos av4];kernel_rfl)|(rw[if_neg av4];exact⟨rfl,rfl⟩))
  (fun os started H enc _ F=>by rw[OpenClaim.pre_eq_preRow];exact lifted os started H enc F)
theorem plain(f:FuncId)(fn:Go.Func)(hf:Tryz.pinned.checked.prog.funcNamed "joinlearn/joinlearnlaw11.AggregateSplits" =some f)(hfn:Tryz.pinned.checked.prog.funcs[f]? =some fn):
 true=Tryz.pinned.checked.prog.looks []/\∀(j:Nat) t,fn.params[j]? =some t->Tryz.pinned.checked.prog.wantsStandIn t=false:=by
 obtain rfl:f=3:=Option.some.inj ((show prog.funcNamed "joinlearn/joinlearnlaw11.AggregateSplits" =some 3 by kernel_rfl).symm.trans hf)|>.symm;obtain rfl:fn=Tryz.f3:=(Option.some.inj (func3.symm.trans hfn)).symm;refine⟨by kernel_rfl,fun j t ht=> ?_⟩;rw[Tryz.params3] at ht;have hm:=Array.mem_of_getElem? ht;simp only[List.mem_toArray,aJ,bL,or_false] at hm;rcases hm with rfl|rfl
 ·exact(show prog.wantsStandIn 22=false by kernel_rfl)
 ·exact(show prog.wantsStandIn 5=false by kernel_rfl)
theorem card:Rows.AggregateSplitsCardSaid:=
 Claim7.holds_tied_plain_at .later [] _ _ _ _ said Oe Ok Oe aggregateSplits_row_tie rfl ⟨rfl,rfl⟩ Ok rfl plain Ok
end Go.Proofs.YtadbchhdjbghkaaGreatDoor.aggregateSplits
