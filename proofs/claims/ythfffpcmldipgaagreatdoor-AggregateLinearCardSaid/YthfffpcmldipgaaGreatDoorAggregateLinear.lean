/- AggregateLinear: sums are linear in each table: a table in two parts gives the sum of both, and multiplied weights a multiple, also group by group. For every input. -/
import Derived.Test.YthfffpcmldipgaaGreatDoorA5
import Derived.Test.YthfffpcmldipgaaGreatDoorA13
set_option maxHeartbeats 8000000
set_option linter.all false
set_option maxRecDepth 100000
namespace Go.Proofs.YthfffpcmldipgaaGreatDoor.aggregateLinear
open Go.ChangeShapes Go.WideShapes Go.ChangeAt Go.RowKit
open Go.Proofs.Tryz
theorem arZ:prog.inPlace 3=Rows.aggregateLinearRow.inPlace:=Ok
theorem aiM:prog.unfollowed 3=true:=Ok
theorem avE:prog.recurses 3=true:=by unfold Program.recurses;rw[aiM];rfl
theorem ar0:prog.varsNamed 3=Rows.aggregateLinearRow.named:=Ok
theorem closed:joinedFacts prog 3 Tryz.f3 (OpenSpec.ofChange Rows.aggregateLinearSpec).bare Rows.aggregateLinearRow=true:=by unfold joinedFacts;rw[arZ,aiM,avE,ar0];simp only[cZ];and_intros;all_goals kernel_rfl
theorem table{W:au}(h:laidMetH prog Rows.aggregateLinearRow.laid W):eR W:=
 akn Ok Ok avD Ok underlying346 underlying249 Ok Ok h
theorem contract(H:Type)(g:TypeId×Value->H)(W:au)(h:Nat)(a:Array Value)(C X:List (DataW H))(f:List MemPlace)
 (b:∀(j:Nat) t v,Tryz.f3.params[j]?=some t->a[j]?=some v->Value.okWide prog W .any h t v)
 (hW:DataW.Whole g prog Tryz.f3.params.toList Rows.aggregateLinearSpec.vars false W a.toList C X f) (T:laidMetH prog Rows.aggregateLinearRow.laid W):
 Calls prog 3 a W fun e D=>∃v,e= .returned v/\Rows.aggregateLinearSpec.post g prog Tryz.f3 false true false false W a v D:=by
 have u:=hW;obtain⟨p,q,w,S,rfl,Q,P⟩:=hW;have B:DataW.TrodAll g prog W 0 (fun _=>true) true Tryz.f3.params.toList a.toList C p:=w;rw[Tryz.params3] at B b;obtain⟨J,G,d0,Z,p0,q0,s,rfl,rfl,V,M⟩:=trodAll_cons B;obtain⟨I,F,d1,Y,p1,q1,d,rfl,rfl,U,L⟩:=trodAll_cons M;obtain⟨rfl,rfl,rfl⟩:=trodAll_nil L;subst d;obtain rfl:a= #[J,I]:=by cases a;simp_all
 obtain⟨rfl,rfl⟩:=trodVars_none S;obtain⟨A,E,c,rfl,hn,l,k,m,r⟩:=anl underlying22 underlying3 Ok (b 0 _ _ rfl rfl) V;obtain⟨K,o⟩:=aqN r;obtain⟨x,rfl,rfl,rfl,n⟩:=open_int underlying5 (b 1 _ _ rfl rfl) U;obtain⟨y,rfl⟩:=aou x n;refine(akA aoG K A E c y.toNat W l (by unfold maxLen at k;omega) o (fun z N=>anV (m z N)) y.toNat_lt (table T)).mono fun e D R=> ?_;obtain⟨rfl,O⟩:=R;exact⟨_,rfl,am3 apr rfl underlying4 rfl (by rw[Tryz.params3];decide +kernel) u rfl (fun _=>ok_one Ok rfl (okWide_bool_mk underlying4 _)) O⟩
theorem aps(a:Os):laidMetH prog Rows.aggregateLinearRow.laid ((UX a).forCall (fun _ _=>0) ⟨#[],#[.slice none 0 0,.int .u8 0],[]⟩).memory:=by rw[MakeChecks.laidMetH_plain _ _ _ Ok];exact laidMet_of_run' 8 Ok Ok
theorem reads(c:Os){H:Type}(b:TypeId×Value->H):∃a,DataW.whole b prog ((UX c).forCall (fun _ _=>0) ⟨#[],#[.slice none 0 0,.int .u8 0],[]⟩).memory Tryz.f3.params.toList Rows.aggregateLinearSpec.vars false #[Value.slice none 0 0,.int .u8 0].toList 8=some ([.nil,.lit (.int .u8 0)],[],a):=
 ⟨[],by kernel_rfl⟩
theorem lifted(c:Os)(a:c.Started)(H:Type)(enc:TypeId×Value->H)(F:Stop.Interp):
 ReturnsInHanded {} Tryz.checked c 3 .any ((OpenSpec.ofChange Rows.aggregateLinearSpec).preRow enc prog Tryz.f3 Rows.aggregateLinearRow.domain false Rows.aggregateLinearRow.laid) (((OpenSpec.ofChange Rows.aggregateLinearSpec).at F).post enc prog Tryz.f3 false true false false):=by
 obtain⟨g,h⟩:=reads c enc;refine returnsInHanded_of_row (C:=Tryz.checked) (s:=OpenSpec.ofChange Rows.aggregateLinearSpec) ao2 a Ok func3
  (witness_row_at (enc:=enc) (C:=Tryz.checked) false (UX c) #[.slice none 0 0,.int .u8 0] rfl Ok Ok Ok
    (OpenSpec.preRow_of_cond 8 h Ok Oy9 Ok (aps c))) ?_
 intro W e f m l b d hW _ _ _ j _ _;exact contract H enc W e f m l b d hW j
theorem said:Rows.AggregateLinearSaid:=
 OpenClaim.holds_of_cond 3 Tryz.f3 rfl rfl rfl rfl rfl rfl rfl ⟨rfl,rfl,rfl,rfl,rfl⟩ rfl rfl rfl rfl rfl Ok func3 closed
  (of_decide_eq_true Ok) (by unfold Func.isWrapper;first|(rw[if_pos (by decide +kernel)];kernel_rfl)|(rw[if_neg (by decide +kernel)];exact⟨rfl,rfl⟩))
  (fun d a H c _ F=>by rw[OpenClaim.pre_eq_preRow];exact lifted d a H c F)
theorem plain(f:FuncId)(b:Go.Func)(e:Tryz.pinned.checked.prog.funcNamed "joinlearn/joinlearnlaw11.AggregateLinear" =some f)(a:Tryz.pinned.checked.prog.funcs[f]?=some b):
 true=Tryz.pinned.checked.prog.looks []/\∀(j:Nat) t,b.params[j]?=some t->Tryz.pinned.checked.prog.wantsStandIn t=false:=by
 obtain rfl:f=3:=Option.some.inj ((show prog.funcNamed "joinlearn/joinlearnlaw11.AggregateLinear" =some 3 by kernel_rfl).symm.trans e)|>.symm;obtain rfl:b=Tryz.f3:=(Option.some.inj (func3.symm.trans a)).symm;refine⟨by kernel_rfl,fun j t c=> ?_⟩;rw[Tryz.params3] at c;have d:=Array.mem_of_getElem? c;simp only[List.mem_toArray,aI,bF,or_false] at d;rcases d with rfl|rfl
 ·exact(show prog.wantsStandIn 22=false by kernel_rfl)
 ·exact(show prog.wantsStandIn 5=false by kernel_rfl)
theorem card:Rows.AggregateLinearCardSaid:=
 Claim7.holds_tied_plain_at .later [] _ _ _ _ said Oy9 Ok Oy9 aggregateLinear_row_tie rfl ⟨rfl,rfl⟩ Ok rfl plain Ok
end Go.Proofs.YthfffpcmldipgaaGreatDoor.aggregateLinear
