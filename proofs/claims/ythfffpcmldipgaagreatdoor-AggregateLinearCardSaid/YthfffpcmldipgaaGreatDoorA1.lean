/- Texts of the proof, part 1. -/
import Derived.Test.YthfffpcmldipgaaGreatDoorA0
import Derived.BigQuiet
import Derived.BigRegion
import Derived.Carry
import Derived.Deep.DeepCutAuto
import Derived.Deep.DeepHandedRow
import Derived.Deep.LoopGhost
import Derived.Deep.QuietTactic
import Derived.Deep.RegionHeld3
import Derived.Deep.RegionWith
import Derived.IntWalk
import Derived.LaidSub
import Derived.Laws.AppendOwnNone
import Derived.Laws.Bits64b
import Derived.Laws.CopyOwn
import Derived.Laws.Cover1
import Derived.Laws.EntriesVeiled
import Derived.Lib.AppendIntMem
import Derived.Lib.AppendStr
import Derived.Lib.AtoiErrMem
import Derived.Lib.ConvBytes
import Derived.Lib.CutLaws
import Derived.Lib.Hide
import Derived.Lib.IndexBytes
import Derived.Lib.ItoaLen
import Derived.Lib.LaidTab
import Derived.Lib.OthersKept
import Derived.Lib.ParseIntB
import Derived.Lib.Repeat
import Derived.Lib.SlBytesConst
import Derived.MakeChecks
import Derived.Maps.AppendAt
import Derived.Maps.OwnSet
import Derived.Maps.RangeWalk
import Derived.OpenShut
import Derived.OrdersHeld
import Derived.ProofKit
import Derived.RegionTactic
import Derived.WalkKit
import Derived.WalkSpells
import Derived.Test.YthfffpcmldipgaaGreatDoorCards
import Derived.Test.YthfffpcmldipgaaGreatDoorTie
namespace Go.Proofs.YthfffpcmldipgaaGreatDoor
set_option maxHeartbeats 8000000
set_option linter.all false
set_option maxRecDepth 100000
variable{ai:Prop}
open Go.RowKit Go.Lib Go.Maps Go.ChangeShapes Go.WideShapes Go.ChangeAt Go.Proofs.Tryz
variable{a b c d e f g h:Nat}{i j k l:List Nat}{m n o:World}{p q r s:Value}{t u v:List Value}{w x:TypeId}{y z:Nat→Option Nat}{A:Nat→List Nat}{B C:Int}{E F:Option Addr}{H I:Rat}{J:Nat→Nat}{K:Nat→Bool}{L:List Int}{N:Array Bool}{O:Option Nat}{Q:Act}{R S:Bool}{T:List UInt8}
def aI:=@List.mem_cons
def aK:=@Nat.le_refl
def aT:=@Nat.zero_le
def aV:=@List.getElem?_eq_getElem
def aZ:=@List.getElem_mem
def a8:=@Nat.le_trans
def bC:=@List.length_append
def bF:=@List.not_mem_nil
def bG:=@List.mem_singleton
def bQ:=@List.mem_append
def cy:=@List.length_map
def cA:=@Nat.lt_or_ge
def cE:=@Nat.lt_of_lt_of_le
def cP:=@List.length_take
def cW:=@List.length_cons
def cZ:=@Bool.and_eq_true
def dA:=@List.take_of_length_le
def dB:=@List.set_cons_zero
def dG:=@Option.some.injEq
def dH:=@List.mem_map
def dN:=@List.setIfInBounds_toArray
def dO:=@List.set_cons_succ
def dP:=@List.mem_range
def dR:=@List.getElem?_cons_zero
def dY:=@List.getElem?_map
def eB:=@List.getElem?_cons_succ
def eI:=@Nat.mul_comm
def fc:=@Nat.mul_le_mul_right
def fg:=@Nat.mod_lt
def fG:=@List.getD_eq_getElem?_getD
def fH:=@List.getElem?_eq_none
def fI:=@List.mem_filter
def fJ:=@Nat.pow_succ
def fM:=@Ne.symm
def fU:=@List.getElem?_toArray
def f6:=@Int.natAbs_natCast
def f9:=@List.take_length
def gF:=@Nat.mul_assoc
def gM:=@Nat.pow_le_pow_right
def gN:=@List.length_range
def gO:=@Nat.mul_add
def g9:=@List.take_succ_eq_append_getElem
def iB:=@List.append_assoc
def iM:=@List.length_singleton
def i6:=@List.drop_eq_getElem_cons
def i7:=@Nat.eq_zero_or_pos
def ja:=@List.nodup_cons
def jc:=@Nat.zero_add
def jt:=@Nat.mul_le_mul_left
def ju:=@List.getElem_of_mem
def jI:=@List.pairwise_cons
def jJ:=@Nat.min_eq_left
def jK:=@Nat.add_zero
def kF:=@Int.toNat_natCast
def kG:=@List.append_nil
def kH:=@List.take_zero
def k7:=@Go.IntKind.wrap_u64
def k9:=@Nat.add_mul
def lH:=@List.eq_nil_of_length_eq_zero
def lI:=@List.mem_cons_self
def lJ:=@Go.World.ownsRow_nil
def lK:=@Bool.or_eq_true
def lX:=@List.getElem?_range
def lY:=@List.length_set
def lZ:=@Bool.eq_iff_iff
def l8:=@Nat.mul_one
def l9:=@Nat.le_succ
def mK:=@List.length_filter_le
def mL:=@List.map_append
def mM:=@Int.natCast_mul
def mO:=@List.drop_zero
def ow:=@List.nodup_append
def ox:=@List.mem_flatMap
def oB:=@List.length_drop
def oD:=@Nat.add_comm
def pC:=@List.getElem?_append_left
def pD:=@List.contains_iff_mem
def pE:=@List.take_add_one
def qD:=@List.drop_of_length_le
def qE:=@List.map_congr_left
def qF:=@List.getElem?_set
def qG:=@List.any_eq_true
def qI:=@Nat.le_of_lt
def qK:=@Nat.one_mul
def rH:=@List.pairwise_iff_getElem
def rI:=@List.filter_append
def rJ:=@List.filter_cons
def rM:=@Nat.succ_mul
def rO:=@Nat.pow_add
def sQ:=@List.take_append_drop
def sR:=@List.mem_of_mem_take
def sS:=@List.mem_cons_of_mem
def sT:=@Nat.and_lt_two_pow
def sU:=@List.mem_replicate
def sV:=@List.nodup_range
def sW:=@List.map_cons
def sY:=@Nat.pow_one
def sZ:=@Go.RowKit.Below.trans
def ux:=@UInt8.le_iff_toNat_le
def uy:=@List.mem_of_getElem?
def uz:=@List.ext_getElem?
def uA:=@Bool.not_eq_true'
def uB:=@Nat.mod_eq_of_lt
def uC:=@List.cons_append
def uD:=@List.all_eq_true
def uE:=@Bool.not_eq_true
def vO:=@List.getElem?_eq_some_iff
def vP:=@List.flatMap_cons
def vQ:=@Nat.div_add_mod
def vR:=@List.nil_append
def vU:=@List.length_nil
def vV:=@Int.natAbs_mul
def vX:=@Go.RowKit.Below.grown
def xN:=@Nat.mul_le_mul
def xQ:=@Bool.or_false
def zR:=@List.getElem?_append_right
def zS:=@Array.getElem?_eq_none
def zT:=@List.Pairwise.sublist
def zU:=@List.filter_sublist
def zV:=@Nat.xor_lt_two_pow
def zW:=@List.map_replicate
def zX:=@List.pairwise_map
def zY:=@Go.IntKind.wrap_i64
def zZ:=@Nat.two_pow_pos
def z7:=@List.find?_some
def z8:=@List.drop_drop
def Aj:=@Rat.zero_add
def Am:=@Nat.pow_zero
def Ay:=@Nat.mul_zero
def Az:=@Nat.and_comm
def AB:=@Int.le_refl
def AH:=@Go.RowKit.Below.refl
def Du:=@List.mem_of_find?_eq_some
def Dv:=@List.getElem?_replicate
def Dw:=@List.drop_eq_nil_of_le
def Dx:=@Int.sign_eq_one_of_pos
def Dy:=@List.set_append_right
def Dz:=@List.mem_of_mem_drop
def DC:=@Nat.lt_of_le_of_lt
def DF:=@List.find?_eq_none
def DI:=@List.foldl_append
def DK:=@List.getElem_map
def DL:=@Go.Lib.cell_of_heap
def DM:=@Int.natCast_ediv
def DN:=@Nat.div_le_self
def DR:=@Nat.add_assoc
def DT:=@Nat.gcd_comm
def GF:=@List.flatMap_append
def GH:=@List.getElem?_drop
def GI:=@List.getElem_take
def GJ:=@List.filter_congr
def GL:=@Nat.zero_testBit
def GP:=@Rat.intCast_mul
def GQ:=@List.range_succ
def GU:=@Go.IntWalk.i64_in
def GV:=@Int.mul_nonneg
def GY:=@Rat.add_assoc
def GZ:=@List.sum_cons
def G5:=@List.map_take
def G6:=@Bool.not_true
def G7:=@Nat.le_of_eq
def G8:=@List.map_set
def G9:=@List.map_map
def G_:=@Int.lt_or_le
def Hd:=@Int.mul_pos
def JT:=@Option.isSome_iff_exists
def JU:=@Nat.le_mul_of_pos_right
def JW:=@List.pairwise_singleton
def JX:=@List.getElem?_set_self
def JY:=@Go.Region.noSelect_spec
def JZ:=@Nat.pow_lt_pow_right
def J0:=@List.replicate_succ'
def J1:=@List.length_pos_iff
def J2:=@List.getElem_range
def J3:=@Nat.or_lt_two_pow
def J5:=@Go.Region.free_spec
def J6:=@Nat.mod_add_div
def J7:=@List.foldl_cons
def J8:=@List.filter_nil
def Ka:=@Nat.testBit_or
def Kb:=@Bool.false_or
def Kc:=@Nat.zero_mul
def Kd:=@Nat.mul_succ
def N1:=@List.take_append_of_le_length
def N2:=@Int.sign_eq_neg_one_of_neg
def N9:=@Array.size_setIfInBounds
def N_:=@List.getElem_cons_zero
def Oa:=@List.length_replicate
def Ob:=@List.countP_le_length
def Og:=@List.filter_eq_self
def Oh:=@List.map_singleton
def Oi:=@Go.RowKit.Below.heap_setCell
def Ol:=@Option.bind_some
def Oo:=@Nat.le_add_right
def Oq:=@Nat.div_eq_of_lt
def Ot:=@Nat.not_lt_zero
def Ov:=@List.cons.injEq
def Ow:=@List.take_take
def Ox:=@List.nodup_nil
def OB:=@Bool.true_and
def OD:=@Nat.sub_self
def OE:=@Go.Addr.add_lit
def S8:=@List.set_eq_take_append_cons_drop
def S9:=@List.idxOf_lt_length_of_mem
def S_:=@Classical.byContradiction
def Ta:=@List.countP_cons_of_pos
def Tb:=@List.countP_cons_of_neg
def Tc:=@Nat.div_lt_iff_lt_mul
def Td:=@Go.Lib.run_eql_slice_nil
def Te:=@Nat.eq_of_testBit_eq
def Tf:=@List.pairwise_append
def Tg:=@Array.size_replicate
def Th:=@List.take_succ_cons
def Ti:=@UInt8.toNat_ofNat'
def Tj:=@Go.World.drewN_drewN
def Tk:=@Nat.lt_trichotomy
def Tl:=@List.any_eq_false
def Tm:=@Int.lt_trichotomy
def Tn:=@List.drop_length
def Tp:=@List.drop_append
def Tq:=@Int.natCast_emod
def Ts:=@UInt8.toNat.inj
def Tt:=@Nat.le_add_left
def Tu:=@List.idxOf_cons
def Tv:=@Int.natCast_add
def Tx:=@Int.natAbs_neg
def TA:=@List.any_cons
def TC:=@Bool.or_assoc
def TD:=@Bool.and_true
def TJ:=@Rat.add_zero
def TK:=@Rat.add_comm
def TM:=@Nat.sub_zero
def TP:=@Nat.ne_of_gt
def TQ:=@Nat.lt_trans
def TR:=@List.any_nil
def TS:=@Int.add_comm
def TW:=@Bool.or_true
def Uc:=@Rat.one_mul
def Ud:=@Rat.mul_one
def Ue:=@Nat.gcd_rec
def aaa:=@Nat.mul_lt_mul_of_pos_right
def aab:=@Array.getElem?_eq_some_iff
def aac:=@List.getElem_append_right
def aad:=@Int.sign_eq_zero_iff_zero
def aae:=@Array.getElem?_eq_getElem
def aaf:=@List.idxOf_lt_length_iff
def aag:=@List.getElem_append_left
def aah:=@List.find?_range_eq_some
def aai:=@Int.mul_ediv_cancel_left
def aaj:=@Nat.testBit_lt_two_pow
def aak:=@Nat.le_mul_of_pos_left
def aal:=@List.filter_eq_nil_iff
def aam:=@Bool.and_eq_false_iff
def aan:=@Array.getElem?_modify
def aao:=@List.getElem?_set_ne
def aap:=@BitVec.testBit_toNat
def aaq:=@List.replicate_zero
def aar:=@List.length_reverse
def aas:=@List.drop_succ_cons
def aat:=@List.drop_replicate
def aau:=@Go.World.grownBy.refl
def aav:=@Nat.pos_of_ne_zero
def aaw:=@Nat.gcd_zero_right
def aax:=@List.getElem?_take
def aay:=@List.append_of_mem
def aaz:=@Int.sub_eq_add_neg
def aaB:=@Rat.divInt_eq_div
def aaC:=@Nat.mul_left_comm
def aaD:=@List.getElem?_nil
def aaE:=@List.count_append
def aaF:=@Option.getD_some
def aaG:=@Nat.lt_succ_self
def aaH:=@Nat.le_of_not_lt
def aaI:=@List.flatMap_nil
def aaL:=@Option.map_some
def aaM:=@Go.Oper.upon_value
def aaN:=@Nat.testBit_and
def aaO:=@List.sum_append
def aaP:=@List.any_append
def ajs:=@Array.all_eq_true_iff_forall_mem
def ajt:=@List.dropLast_concat_getLast
def aju:=@Nat.testBit_two_pow_sub_one
def ayZ(h:ai:=by (rw[beq_eq_false_iff_ne];omega)):=h
def ay0(h:ai:=by (simp only[aI,bF,or_false];omega)):=h
def ay1(h:ai:=by (unfold B9;omega)):=h
def ay2(h:ai:=by (have:=j.ae;unfold B9 at this⊢;omega)):=h
def ay3(h:ai:=by (rw[HT.ae];unfold B9;omega)):=h
def ay4(h:ai:=by (rw[ah,dw];exact fun _ h=>h)):=h
def ay5(h:ai:=by simp [a]):=h
def ay6(h:ai:=by exact bh.drew):=h
def ay7(h:ai:=by simpa using c):=h
def ay8(h:ai:=by (rw[cP];omega)):=h
def ay9(h:ai:=by (show w.heap.size<w.heap.size+1;omega)):=h
def ay'(h:ai:=by (unfold maxLen;omega)):=h
def ay_(h:ai:=by (rw[k7];omega)):=h
def aza(h:ai:=by simpa using a):=h
def azb(h:ai:=by exact HX.trans b):=h
def azc(h:ai:=by (have:=j.ae;unfold B9 at this;omega)):=h
def azd(h:ai:=by simpa using h):=h
def aze(h:ai:=by (simp only[bG];omega)):=h
def azf(h:ai:=by exact HX.drew):=h
def azg(h:ai:=by (unfold ints;rw[cy])):=h
def azh(h:ai:=by (rw[dw];exact fun _ h=>h)):=h
def azi(h:ai:=by simpa [Value.ownBlock] using e):=h
def azj(h:ai:=by (rw[<-mM];omega)):=h
def azk(h:ai:=by (intro i a;simp only[aI,bF,or_false] at a;omega)):=h
def azl(h:ai:=by (rw[dw];exact fun w' h1 h2=>⟨h1,h2.two⟩)):=h
def azm(h:ai:=by simpa using e):=h
def azn(h:ai:=by simpa using b):=h
def azo(h:ai:=by simp [b]):=h
def azp(h:ai:=by (rintro rfl;exact absurd w Od)):=h
def azq(h:ai:=by (have:=s.ae;omega)):=h
def azr(h:ai:=by (have:=h.1.head;unfold B9 at this;exact this)):=h
def azs(h:ai:=by (rw[show(48:UInt8).toNat=48 from rfl];omega)):=h
def azt(h:ai:=by (rw[beq_iff_eq];omega)):=h
def azu(h:ai:=by (have:=E.ae;have:=n.ae;omega)):=h
def azv(h:ai:=by (show w.heap.size+1<w.heap.size+1+1;omega)):=h
def azw(h:ai:=by (rw[cy];omega)):=h
def azx(h:ai:=by (rw[ah,HT.ae,rI,rJ,hq];simp)):=h
def azy(h:ai:=by simp [d]):=h
def azz(h:ai:=by simp [c]):=h
def azA(h:ai:=by simp [results,wM,go_sem]):=h
def azB(h:ai:=by (rw[b.ae];unfold B9;omega)):=h
def azC(h:ai:=by (rw[a];omega)):=h
def azD(h:ai:=by (rw[B.ae];unfold B9;omega)):=h
def azE(h:ai:=by (rw[A.ae];unfold B9;omega)):=h
def azF(h:ai:=by (intro x s;rw[sU] at s;rw[s.2];decide)):=h
def azG(h:ai:=by simpa using f):=h
def azH(h:ai:=by simpa using d):=h
def azI(h:ai:=by (show g+1≠g+1+1;omega)):=h
def azJ(h:ai:=by simp [Fo.vars,h]):=h
def azK(h:ai:=by (rw[<-fJ];congr 1;omega)):=h
def azL(h:ai:=by (rw[zY];omega)):=h
def azM(h:ai:=by (rw[sX];omega)):=h
def azN(h:ai:=by simp [results,results204,go_sem]):=h
def azO(h:ai:=by simp [results,results150,go_sem]):=h
def azP(h:ai:=by (show g≠g+1+1;omega)):=h
def azQ(h:ai:=by (rw[h];rfl)):=h
def azR(h:ai:=by (rw[bne_iff_ne];omega)):=h
def azS(h:ai:=by (have:=bW.size;have:=BB.lt;omega)):=h
def azT(h:ai:=by simp [ints]):=h
def azU(h:ai:=by simp [Fo.vars]):=h
def azV(h:ai:=by (obtain⟨_,_,rfl,_⟩:=h;rfl)):=h
def azW(h:ai:=by (rw[aV gV] at hr;injection hr)):=h
def azX(h:ai:=by (have:=zA.ae;omega)):=h
def azY(h:ai:=by (unfold VS.less VS.one;simp)):=h
def azZ(h:ai:=by (rw[decDigits_length];omega)):=h
def az0(h:ai:=by (rw[ah,Ja];exact fun _ h=>h)):=h
def az1(h:ai:=by simp [Fo.vars,i]):=h
def az2(h:ai:=by (rw[eI,<-fJ];congr 1;omega)):=h
def az3(h:ai:=by (have:=n.ae;omega)):=h
def az4(h:ai:=by (have:=V.ae;omega)):=h
def az5(h:ai:=by (have:=G.ae;omega)):=h
def az6(h:ai:=by exact HX.trans c):=h
def az7(h:ai:=by (rw[J0];simp)):=h
def az8(h:ai:=by exact n.trans g):=h
def az9(h:ai:=by simp [g]):=h
def az'(h:ai:=by (have:=zZ g.length;omega)):=h
def az_(h:ai:=by decide+a):=h
def aAa(h:ai:=by (unfold kd;simp [ah,kQ])):=h
def aAb(h:ai:=by (simp at a;subst a;simp)):=h
def aAc(h:ai:=by (rw[bne_iff_ne];exact i)):=h
def aAd(h:ai:=by (have:=q.den_pos;omega)):=h
def aAe(h:ai:=by (simp only[gH];omega)):=h
def aAf(h:ai:=by (rw[mP];omega)):=h
def aAg(h:ai:=by (rw[Az];exact sT _ d)):=h
def aAh(h:ai:=by exact n.drew):=h
def aAi(h:ai:=by simp [s]):=h
def aAj(h:ai:=by simp [e]):=h
def aAk(h:ai:=by (rw[j9.ae];exact Cj)):=h
def aAl(h:ai:=by simp [Fo.homes,k]):=h
def aAm(h:ai:=by simp [Fo.homes,j]):=h
def aAn(h:ai:=by simp [Fo.homes,c]):=h
def aAo(h:ai:=by (rw[h.len];exact r)):=h
def aAp(h:ai:=by (rw[h.len];exact m)):=h
def aAq(h:ai:=by (rw[ah,Nk.ae];simp)):=h
def aAr(h:ai:=by (have:=HY.ae;omega)):=h
def aAs(h:ai:=by (unfold lM;decide)):=h
def aAt(h:ai:=by (rw[bC];rfl)):=h
def aAu(h:ai:=by (have:=E.ae;omega)):=h
def aAv(h:ai:=by (rw[uj.ae];omega)):=h
def aAw(h:ai:=by (rw[sG];exact mD)):=h
def aAx(h:ai:=by (rw[sG];exact dX)):=h
def aAy(h:ai:=by (rw[Jx.ae];omega)):=h
def aAz(h:ai:=by (rw[e];rfl)):=h
def ah(p:Prop):Prop:=p
def ah.ae{p:Prop}(h:ah p):p:=h
def af{p:Prop}(h:p):ah p:=h
def aW{p:Prop} [Decidable p](h:¬p:=by(omega)):decide p=false:=decide_eq_false h
def fF{p:Prop} [Decidable p](h:p:=by(omega)):decide p=true:=decide_eq_true h
abbrev aS:=Option Addr
abbrev au:=World
abbrev av(x:Int):Value:= .int .i64 x
abbrev aO(t:List UInt8):Value:= .string ⟨t.toArray⟩
abbrev aB(b o:Nat):Addr:=⟨b,o,none⟩
abbrev cT(b o:Nat):Option Addr:=some ⟨b,o,none⟩
abbrev aJ(b o:Nat):Value:= .pointer (some ⟨b,o,none⟩)
abbrev aG(b o n c:Nat):Value:= .slice (some ⟨b,o,none⟩) n c
abbrev ay(w:World)(b o:Nat)(v:Value):Prop:=w.cell? ⟨b,o,none⟩=some v
set_option maxRecDepth 100000
def m0(h:ai:=by
 obtain⟨l,h,rfl,rfl,hlh,hhB,HL,HH,ze⟩:=hrel;obtain⟨b0,b1⟩:=(JO.ext ze).two;by_cases nU:l<h
 ·obtain⟨md,YW⟩:∃md:Nat,md=(l+h+1)/2:=⟨_,rfl⟩;have yR:((l:Int)+h+1)/2=(md:Int):=Om;have ax3:l<md:=Om;have au':md<=h:=Om;clear YW;go_wp2_with fail
  refine(abz _ Y md wr (Iz.ext ze) FB Om).mono ?_;rintro e w6 ⟨v6,rfl,su,iq⟩;obtain⟨A6,m6,c6,rfl,YX,zi⟩:=su.parts;clear YX;have Gh:ah (Fit (Y*md)):=afp Nx (by rw[eI];exact fc _ (qI (show md<B9 by unfold B9;omega)));have cY:=af (ze.trans iq);clear iq su b0 b1;go_wp2_with fail
  refine(acv zi (vF.ext cY) Gh Ql).mono ?_;rintro e w7 ⟨rfl,Yl,rfl⟩;have iy:ah (Ext wo (w6.drewN Yl)):=cY.drewN Yl;generalize w6.drewN Yl=w7 at*;by_cases hc:Y*md<=R1
  ·have hcm:decide (ew (Y*md) R1<=0)=true:=by unfold ew;split;rfl;rw[if_neg Om];rfl
   have HC:=af hc;generalize ew (Y*md) R1=cm at*;clear hc;go_wp2;go_roundw;exact⟨md,h,rfl,rfl,au',hhB,HC,HH,iy⟩;simp [RowKit.intOf];omega
  ·have hcm:decide (ew (Y*md) R1<=0)=false:=by rw[PR Om];rfl
   have HC:ah (R1<Y*((md - 1)+1)):=by rw[ah,Nat.sub_add_cancel Om];omega
   generalize ew (Y*md) R1=cm at*;clear hc;go_wp2;go_roundw;exact⟨l,md - 1,rfl,congrArg _ Om,by omega,by omega,HL,HC,iy⟩;simp [RowKit.intOf];omega
 ·obtain rfl:l=h:=Om;have XO:=af (EX.ext ze);have e3:List.replicate (k+1) 0++q=List.replicate k 0++(0::q):=az7;have arW:wr.cell? (aB (w.heap.size+1+1+1+1) k)=some (av 0):=(by have:=Vx (i:=k) XO Oc;rw[this,e3,D_ _ _ _ _ Ou];rfl)
  have Xs:=XO.frozen k;have LH:=af (ac4 (i:=k) (x:=l) XO (z:=(l:Int)) rfl);rw[e3,AY _ _ _ _ _ Ou] at LH;have QF:ah (Below (w.heap.size+1+1+1+1) W (wr.setCell (aB (w.heap.size+1+1+1+1) k) (av (l:Int)))):=(LM.trans (ze.mono Om)).setCell (p:=aB (w.heap.size+1+1+1+1) k) (aK _) _;have ai':=af ((Nn.ext ze).far (p:=aB (w.heap.size+1+1+1+1) k) (by show w.heap.size+1+1+1+1<w.heap.size+1+1+1+1+1;omega) (av (l:Int)));have XI:ah (Ext w (wr.setCell (aB (w.heap.size+1+1+1+1) k) (av (l:Int)))):=sZ HX (QF.mono Om);have ZW:ah (val (a.drop k)=val (l::q)*Y+(R1 - Y*l)):=by rw[ah,ai7.ae];exact aoR Om HV (by rw[<-ai7.ae];exact HL)
  have Zq:R1 - Y*l<Y:=by have h1:=HH.ae;have h2:=HL.ae;rw[gO,l8] at h1;omega
  have ajl:=af (HDQ.cons (show l<B9 from hhB));have ai8:ah ((l::q).length=a.length - k):=by rw[ah,cW,Nb.ae];omega
  clear e3 nU;rcases i7 l with rfl|hl0
  ·rw[Ay,TM] at ZW Zq;go_wp2;go_roundw;exact⟨k,R1,0::q,by omega,congrArg _ Om,ai',Zq,ajl,ai8,ZW,LH,QF⟩;simp [RowKit.intOf]
  ·go_upto_region 20 with fail
   clear arW Xs;have awi:=af (HNY.ext XI);have BB5:=af (BB.below QF Om);generalize wr.setCell (aB (w.heap.size+1+1+1+1) k) (av (l:Int))=w5 at*;obtain⟨b0,b1⟩:=BB5.two;go_wp2_with fail
   refine(abz _ Y l w5 awi FB Om).mono ?_;rintro e w6 ⟨v6,rfl,su,iq⟩;obtain⟨A6,m6,c6,rfl,YX,zi⟩:=su.parts;clear YX su;go_wp2_with fail;obtain⟨AN,mN,cN,eN,hNI,hNF⟩:=ai'.ae;injection eN with e1 e2 e3;subst e1 e2 e3;refine(akp (hNI.ext iq) zi Ql (Ql.le HL) HL).mono ?_;rintro e w7 ⟨A7,l7,c7,rfl,aix,ait,hd7,yO,Y1,L_,E7⟩;have iy:=af (iq.trans E7);have auX:w.heap.size+1+1+1+1+1<=w6.heap.size:=by have:=LH.lt;have:=iq.size;omega
   clear hNI hNF iq;go_wp2_with fail;refine(Ul A7 c7 false l7 w7 aix hd7 yO Y1).mono ?_;rintro e w8 ⟨b8,n8,rfl,pZ,gI⟩;have Si:=af pZ.nat;rw[GW,L_] at Si;have awk:ah (qZ w8 (w.heap.size+1+1+1+1+1) (.slice A7 n8 c7) (R1 - Y*l)):=⟨A7,n8,c7,rfl,Si,fun ad h=>a8 auX (ait ad h)⟩;have jS:=af (iy.trans gI);have hfd:=V6 b8 A7 n8 c7;have av5:=af (LH.ext jS);have awW:ah (Below (w.heap.size+1+1+1+1) W w8):=QF.trans (jS.mono (by have:=LH.lt;omega));clear aix ait hd7 yO Y1 L_ E7 gI pZ b0 b1;go_wp2;go_roundw;exact⟨k,R1 - Y*l,l::q,by omega,congrArg _ Om,awk,Zq,ajl,ai8,ZW,av5,awW⟩;simp [RowKit.intOf]):=h
def m1(h:ai:=by
 have cK:(l2.length+1)*8<=140737488355328:=Om;have hw:wo.heap.size<=wr.heap.size:=mH.zz;obtain⟨m,Rf⟩:∃m,mX.length=m:=⟨_,rfl⟩;have HM:=af Rf;rw[Rf] at hb0 hm nt rx nU mJ mH;clear Rf;go_wp2_with (at_builtin;refine gG rfl _ _ 22 rfl wo.heap.size jy _ _ _ rfl HR.ae #[av m] 1 1 rfl rfl rfl cK hw ?_)
 intro v' w5 nS Zd _;have O5:=af (iN (R:=dr) (x:=(m:Int)) cI Oe HR HC rfl nS Zd);have S5:=af (mH.aiP HQ I8 (aK _) HR Zd);obtain⟨A5,c5,x5,rfl,_,_,_,_⟩:=O5.parts;rw[bC,iM] at O5⊢;clear nS Zd hb0 cK hw;go_upto_region 17 with fail
 obtain⟨tn,vg⟩:∃tn,[97]++ [UInt8.ofNat (97+m)]=tn:=⟨_,rfl⟩;have LT:=af (fun w'=>Uo [97] m w' Om Ou);rw[vg] at LT;have Jp:=af vg;clear vg;obtain⟨S,dw⟩:∃S:World->Prop,S=fun w'=>ay w' (w.heap.size+1) 0 (.slice Aa m ca):=⟨_,rfl⟩;have bL:ah (∀w',S w'->ay w' (w.heap.size+1) 0 (.slice Aa m ca)):=ay4;have bU:ah (∀w' l,ar w' (w.heap.size+1) kN (.slice Aa m ca::l)->S w'):=by rw[ah,dw];exact fun w' l h=>h.aD 0
 clear dw;have S5:=af (S5.ext (aC w5).drew);have O5:=af (O5.ext cI (aC w5).drew);have aH:ah (S w5.drew):=bU _ _ S5.blk;refine b9 (S:=S) (T:=fun j=>decide (13<=j)) Ok ?_;generalize w5.drew=wd at*;refine ax 0 59 ?_;refine ax 1 60 ?_;refine ax 2 61 ?_;refine ax 3 62 ?_;refine ax 4 63 ?_;refine ax 6 65 ?_;refine KO 5 7 Ok ?_ ?_
 ·skip
  intro o ho K hK;simp only[fU,eB,dR,dG] at ho;subst ho;go_simp;refine(LT _).mono ?_;rintro e wx ⟨rfl,hx⟩;have S5:=af (S5.ext hx);have O5:=af (O5.ext cI hx);refine hK.ae _ _ (fun _=>bU _ _ S5.blk) ?_;refine iO 7 Ok ?_;intro o ho K hK;simp only[fU,eB,dR,dG] at ho;subst ho;go_simp;refine hK.ae _ _ (fun _=>bU _ _ (S5.blk.ext ((aC _).alloc _))) ?_;have Mn:g<_:=cE hgo S5.zz;refine aP fun WZ cD BZ=> ?_;have S5:=af (S5.ext cD);have O5:=af (O5.ext cI cD);refine iO 8 Ok ?_;intro o ho K hK;simp only[fU,eB,dR,dG] at ho;subst ho;go_simp;refine(UT g _ [1,2,2,3] _ S5.src BZ Om Od Od).mono ?_;rintro e wx ⟨u,hu,rfl,hs,ho⟩;have S5:=af (S5.call HQ ho hs);have O5:=af (O5.only cI ho hgo Oe);have yM:1<=u/\u<=3:=by simp only[aI,bF,or_false] at hu;omega
  clear hs ho hu;refine hK.ae _ _ (fun _=>bU _ _ S5.blk) ?_;have aH:=af (bU _ _ S5.blk);refine ax 9 68 ?_;refine aL 10 ?_;intro K hK;go_simp;refine hK.ae _ _ (fun _=>bU _ _ (S5.blk.ext ((aC _).alloc _))) ?_;refine aP fun WZ cD BX=> ?_;have S5:=af (S5.ext cD);have O5:=af (O5.ext cI cD);clear hK;refine iO 11 Ok ?_;intro o ho K hK;simp only[fU,eB,dR,dG] at ho;subst ho;refine mr rfl ?_;obtain⟨xq,RQ,CQ⟩:=S5.oa;rw[HM.ae] at RQ;have cK:(m+1)*24<=140737488355328:=Om;refine qO _ _ 26 rfl W.heap.size adg _ _ _ rfl RQ _ [aO tn,av u] BX.ae 1 1 rfl rfl rfl cK S5.sz ?_;intro v' wq iX kS nW;obtain⟨Aq,cq,rfl,_,_,_⟩:=dZ iX;have S6:=af (S5.aiR HQ (x:=(tn,u)) HM RQ CQ iX kS);have O6:ah (bH aU 1 dr wo.heap.size wq (.slice A5 (l2.length+1) c5) (l2++ [(m:Int)])):=by obtain⟨ys,q1,q2⟩:=O5.ae;exact⟨ys,jw q1 kS (Kg RQ q1 Od),q2⟩
  clear RQ CQ iX kS nW BX;simp only[Act.put,dN,dB,dO];refine hK.ae _ _ (fun _=>bU _ _ S6.blk) ?_;have aH:=af (bU _ _ S6.blk);refine ax 12 71 ?_;have hc0:=S6.blk.aD 0;have ly:=S6.blk.frozen 0;obtain⟨W7,jo,S7,qi⟩:=S6.put HQ 0 (.slice Aq (m+1) cq);have lA:=af jo;have O7:=af (O6.only cI qi Om Oe);clear jo hK;refine aL 13 ?_;intro K hK;go_simp;refine hK.ae _ _ Oe ?_;rw[lA.ae];refine bY Ok ?_;clear hc0 ly qi hK;go_wp2_with fail
  go_roundw;exact⟨l2++ [(m:Int)],mX++ [(tn,u)],.slice Aq (m+1) cq,k2 - 1,by rw[bC,HM.ae,iM];omega,by rw[bC,HM.ae,iM];omega,by rw[bC,iM];omega,by omega,by go_num,(by have h:=Gs.snoc yM.1 yM.2;rw[HM.ae,show [97,UInt8.ofNat (97+m)]= [97]++ [UInt8.ofNat (97+m)] from rfl,Jp.ae] at h;exact h),by rw[bC,HM.ae,iM];exact mJ.snoc,O7,S7⟩;simp [Ww];omega
 ·skip
  intro o ho K hK;simp only[fU,eB,dR,dG] at ho;subst ho;go_simp;refine hK.ae _ _ (fun _=>bU _ _ (S5.blk.ext ((aC _).alloc _))) ?_;have Mn:g<_:=cE hgo S5.zz;refine aP fun WZ cD BZ=> ?_;have S5:=af (S5.ext cD);have O5:=af (O5.ext cI cD);refine iO 5 Ok ?_;intro o ho K hK;simp only[fU,eB,dR,dG] at ho;subst ho;go_simp;refine(LT _).mono ?_;rintro e wx ⟨rfl,hx⟩;have BZ:=af (BZ.ext (hx));have S5:=af (S5.ext hx);have O5:=af (O5.ext cI hx);refine hK.ae _ _ (fun _=>bU _ _ S5.blk) ?_;refine iO 8 Ok ?_;intro o ho K hK;simp only[fU,eB,dR,dG] at ho;subst ho;go_simp;refine(UT g _ [1,2,2,3] _ S5.src BZ Om Od Od).mono ?_;rintro e wx ⟨u,hu,rfl,hs,ho⟩;have S5:=af (S5.call HQ ho hs);have O5:=af (O5.only cI ho hgo Oe);have yM:1<=u/\u<=3:=by simp only[aI,bF,or_false] at hu;omega
  clear hs ho hu;refine hK.ae _ _ (fun _=>bU _ _ S5.blk) ?_;have aH:=af (bU _ _ S5.blk);refine ax 9 68 ?_;refine aL 10 ?_;intro K hK;go_simp;refine hK.ae _ _ (fun _=>bU _ _ (S5.blk.ext ((aC _).alloc _))) ?_;refine aP fun WZ cD BX=> ?_;have S5:=af (S5.ext cD);have O5:=af (O5.ext cI cD);clear hK;refine iO 11 Ok ?_;intro o ho K hK;simp only[fU,eB,dR,dG] at ho;subst ho;refine mr rfl ?_;obtain⟨xq,RQ,CQ⟩:=S5.oa;rw[HM.ae] at RQ;have cK:(m+1)*24<=140737488355328:=Om;refine qO _ _ 26 rfl W.heap.size adg _ _ _ rfl RQ _ [aO tn,av u] BX.ae 1 1 rfl rfl rfl cK S5.sz ?_;intro v' wq iX kS nW;obtain⟨Aq,cq,rfl,_,_,_⟩:=dZ iX;have S6:=af (S5.aiR HQ (x:=(tn,u)) HM RQ CQ iX kS);have O6:ah (bH aU 1 dr wo.heap.size wq (.slice A5 (l2.length+1) c5) (l2++ [(m:Int)])):=by obtain⟨ys,q1,q2⟩:=O5.ae;exact⟨ys,jw q1 kS (Kg RQ q1 Od),q2⟩
  clear RQ CQ iX kS nW BX;simp only[Act.put,dN,dB,dO];refine hK.ae _ _ (fun _=>bU _ _ S6.blk) ?_;have aH:=af (bU _ _ S6.blk);refine ax 12 71 ?_;have hc0:=S6.blk.aD 0;have ly:=S6.blk.frozen 0;obtain⟨W7,jo,S7,qi⟩:=S6.put HQ 0 (.slice Aq (m+1) cq);have lA:=af jo;have O7:=af (O6.only cI qi Om Oe);clear jo hK;refine aL 13 ?_;intro K hK;go_simp;refine hK.ae _ _ Oe ?_;rw[lA.ae];refine bY Ok ?_;clear hc0 ly qi hK;go_wp2_with fail
  go_roundw;exact⟨l2++ [(m:Int)],mX++ [(tn,u)],.slice Aq (m+1) cq,k2 - 1,by rw[bC,HM.ae,iM];omega,by rw[bC,HM.ae,iM];omega,by rw[bC,iM];omega,by omega,by go_num,(by have h:=Gs.snoc yM.1 yM.2;rw[HM.ae,show [97,UInt8.ofNat (97+m)]= [97]++ [UInt8.ofNat (97+m)] from rfl,Jp.ae] at h;exact h),by rw[bC,HM.ae,iM];exact mJ.snoc,O7,S7⟩;simp [Ww];omega):=h
def m2(h:ai:=by
 have HI:=af CI;have HF:=af hF;have HW:=af hC;have nt:c<=9223372036854775807:=hm;have MC:(l.map (fun v:aF=>Value.string ⟨v.toArray⟩)++rest).length=(l.map (fun v:aF=>Value.string ⟨v.toArray⟩)++rest).length:=rfl;clear CI hF hC sF;generalize hx0:l.map (fun v:aF=>Value.string ⟨v.toArray⟩)++rest=uZ at*;have bh:=af hx0;have hL0:l.length<=uZ.length:=by rw[<-hx0,bC,cy];omega
 clear hx0 MC;rcases sB:(List.range l.length).find? pr with _|k0
 ·have hz:jO pr l.length= -1:=by unfold jO;rw[sB]
  have nx:l.filter (fun v=> !Q v)=l:=Og.2 fun v hv=>by obtain⟨k,hk,rfl⟩:=ju hv;have h1:=DF.1 sB k (by simpa using hk);rw[Ff k hk] at h1;simpa using h1
  rw[hz] at HI;have Gi:=af nx;clear sB hz Fc Ff nx;go_enter func204,ntmps204;go_wp2_with fail
  refine HI.mono ?_;rintro e w' ⟨rfl,hI,Cq⟩;have oh:=af hI;have zH:=af Cq;clear hI Cq;go_wp2;exact bodyPost_ret (v:= .slice (some ⟨g,0,none⟩) l.length c) azN rfl ⟨by rw[Gi.ae],oh,rest,by rw[Gi.ae,bh.ae];exact zH.ae⟩
 ·have wY:k0<l.length:=by simpa using Du sB
  have hz:jO pr l.length=(k0:Int):=by unfold jO;rw[sB]
  have vn:Q l[k0]=true:=by rw[<-Ff k0 wY];exact z7 sB
  have hb0:∀k (hk:k<l.length),k<k0->Q l[k]=false:=fun k hk hlt=>by have h1:=(aah.1 sB).2.2 k hlt;rw[Ff k hk] at h1;simpa using h1
  have ly:(l.take (k0+1)).filter (fun v=> !Q v)=l.take k0:=(by rw[g9 wY,rI,rJ,vn];simp only[G6,Bool.false_eq_true,if_false,J8,kG];refine Og.2 fun v hv=> ?_;obtain⟨k,hk,rfl⟩:=ju hv;rw[cP] at hk;rw[GI,hb0 k Om Om];rfl);have hne:((k0:Int)== -1)=false:=beq_eq_false_iff_ne.2 Om;rw[hz] at HI;have Ny:=af ly;clear sB hz Fc Ff vn hb0 ly h0 hB;go_enter func204,ntmps204;go_wp2_with fail
  refine HI.mono ?_;rintro e w' ⟨rfl,hI,Cq⟩;have oh:=af hI;have zH:=af Cq;clear hI Cq;go_upto_region 5 with fail
  have zJ:ah (uZ.take k0=((l.take (k0+1)).filter fun v=> !Q v).map (fun v:aF=>Value.string ⟨v.toArray⟩)):=(by rw[ah,Ny.ae,<-bh.ae,N1 azw,G5]);have Ns:ah (((l.take (k0+1)).filter fun v=> !Q v).length=k0):=by rw[ah,Ny.ae,cP];omega
  go_loopw [5,6,7] (fun v5 v6 _ wr=>∃(i j:Nat) (zs:List Value),i<j/\j<=l.length/\v5= .int .i64 i/\v6= .int .i64 j/\zs.length=uZ.length/\ah (zs.take i=((l.take j).filter fun v=> !Q v).map (fun v:aF=>Value.string ⟨v.toArray⟩))/\ah (((l.take j).filter fun v=> !Q v).length=i)/\ah (zs.drop j=uZ.drop j)/\ah (ar wr g bI zs)/\ah (I wr)) (fun _ v6 _ _=>l.length - (RowKit.intOf v6).toNat)
  exact⟨k0,k0+1,uZ,by omega,by omega,rfl,by go_num,rfl,zJ,Ns,rfl,zH,oh⟩;obtain⟨i,j,zs,Y9,jR,rfl,rfl,hzl,HA,HL,HD,HB,HI⟩:=hrel;by_cases hlt:j<l.length
  ·have QP:zs[j]?=some ((fun v:aF=>Value.string ⟨v.toArray⟩) l[j]):=by
    have h1:(zs.drop j)[0]?=(uZ.drop j)[0]?:=by rw[HD.ae]
    rw[GH,GH] at h1;rw[show zs[j]?=uZ[j]? from h1,<-bh.ae,pC (by rw[cy];exact hlt),dY,aV hlt];rfl
   have CF:=af (HF _ _ _ HI (aZ hlt) HB);have Fv:=HB.cell QP;have HT:ah (l.take (j+1)=l.take j++ [l[j]]):=g9 hlt;have Gm:ah (∀ys:List Value,ys.drop j=uZ.drop j->ys.drop (j+1)=uZ.drop (j+1)):=fun ys h=>by have:=congrArg (List.drop 1) h;rwa[z8,z8] at this
   generalize l[j]=v at*;have hji:(0:Int)<=(j:Int):=Om;clear QP;go_wp2_with fail
   refine CF.mono ?_;rintro e w2 ⟨rfl,ME,Cp⟩;have sN:=af ME;have eE:=af Cp;clear ME Cp Fv;cases hq:Q v with
   |true=>have pu:ah ((l.take (j+1)).filter (fun v=> !Q v)=(l.take j).filter fun v=> !Q v):=azx;go_wp2;go_roundw;exact⟨i,j+1,zs,by omega,by omega,rfl,by go_num,hzl,by rw[pu.ae];exact HA,by rw[pu.ae];exact HL,Gm.ae _ HD,eE,sN⟩;simp [RowKit.intOf];omega
   |false=>
    have pu:ah ((l.take (j+1)).filter (fun v=> !Q v)=((l.take j).filter fun v=> !Q v)++ [v]):=azx;have Rk:i<zs.length:=Om;have I5:=eE.cell (aV Rk);have sB:=eE.frozen i;obtain⟨W',jp,B7,K7,N7⟩:=gp (i:=i) eE ((fun v:aF=>Value.string ⟨v.toArray⟩) v);have zB:=af (HW _ _ sN N7);have FO:=af jp;have M4:=af (acq (v:=(fun v:aF=>Value.string ⟨v.toArray⟩) v) Rk);have om:ah ((zs.set i ((fun v:aF=>Value.string ⟨v.toArray⟩) v)).drop j=zs.drop j):=List.drop_set_of_lt Y9;generalize zs[i]=old at*;clear jp K7 N7;go_upto_region 10 with fail
    rw[FO.ae];go_wp2;go_roundw;exact⟨i+1,j+1,_,by omega,by omega,by go_num,by go_num,by rw[lY];exact hzl,by rw[ah,M4.ae,HA.ae,pu.ae,mL];rfl,by rw[ah,pu.ae,bC,HL.ae];rfl,Gm.ae _ (om.trans HD),B7,zB⟩;simp [RowKit.intOf];omega
  ·have yT:j=l.length:=Om;subst yT;have d1:decide ((l.length:Int)<(l.length:Int))=false:=aW;have qy:ah (zs.take i=(l.filter fun v=> !Q v).map (fun v:aF=>Value.string ⟨v.toArray⟩)):=by have h:=HA.ae;rw[f9] at h;exact h
   have uk:ah ((l.filter fun v=> !Q v).length=i):=by have h:=HL.ae;rw[f9] at h;exact h
   obtain⟨zs',Cq,auQ,auP,Zu⟩:=U3 (List.replicate (l.length - i) (.string ⟨#[]⟩:Value)) (o:=i) HB;have gX:∀ty,(Builtin.clear_ #[rW] ty #[.slice (some ⟨g,i,none⟩) (l.length - i) (c - i)]).run prog wr= .ok (.tuple #[]) (wr.setCells g i (List.replicate (l.length - i) (.string ⟨#[]⟩:Value))):=fun ty=>amH wr ty g i (l.length - i) (c - i) Om (fun k hk=>by rw[HB.cell (aV (show i+k<zs.length by omega))];rfl) (fun k hk=>HB.frozen _);have zH:=af Cq;have C9:=af Zu;have oh:=af (HW _ _ HI Zu);clear Cq Zu;go_wp2_with (simp only[gX])
   exact bodyPost_ret (v:= .slice (some ⟨g,0,none⟩) i c) azN rfl ⟨by rw[uk.ae],oh,zs'.drop i,by rw[<-qy.ae,<-auP,sQ];exact zH.ae⟩):=h
def m3(h:ai:=by
 go_upto_region 18 with fail
 obtain⟨tn,vg⟩:∃tn,[114]++ [UInt8.ofNat (97+i)]=tn:=⟨_,rfl⟩;have LT:=af (fun w'=>Uo [114] i w' Om Ou);rw[vg] at LT;have Jp:=af vg;clear vg;have Xy:1<=mX.length:=Om;have d_:ah (IL wr (.slice Al l2.length cl) l2):=et.ls;have j9:ah (tD mX.length (aA++ [(tn,l2)])):=(by have h:=tD.snoc (fZ.mono (by rw[C_.ae];exact rx)) (x:=l2) (fun e=>hl0 aAz) mJ.wP mJ.ua;rw[j_.ae,show [114,UInt8.ofNat (97+i)]= [114]++ [UInt8.ofNat (97+i)] from rfl,Jp.ae] at h;exact h)
 have Z1:ah (Qi mX.length (aA++ [(tn,l2)])):=fun a ha=>by
  rcases cA a n0 with h|h
  ·obtain⟨r,hr,h'⟩:=Z2 a (by rw[C_.ae];exact h);exact⟨r,bQ.2 (.inl hr),h'⟩
  ·exact⟨_,bQ.2 (.inr (bG.2 rfl)),mJ.all a h ha⟩
 clear hb0;have iH:=af (mH.ae).PX;have hb1:=iH.blk.aD 1;go_upto_region 20 with fail
 obtain⟨S,dw⟩:∃S:World->Prop,S=fun w'=>ay w' (w.heap.size+1) 1 (.slice A1 i c1):=⟨_,rfl⟩;have bL:ah (∀w',S w'->ay w' (w.heap.size+1) 1 (.slice A1 i c1)):=ay4;have bU:ah (∀w' x l,ar w' (w.heap.size+1) kN (x:: .slice A1 i c1::l)->S w'):=by rw[ah,dw];exact fun w' x l h=>h.aD 1
 clear dw hb1;have iH:=af (iH.ext (aC wr).drew);have aH:ah (S (wr).drew):=bU _ _ _ iH.blk;refine b9 (S:=S) (T:=fun j=>decide (9<=j)) Ok ?_;generalize(wr).drew=wd at*;refine ax 0 76 ?_;refine ax 1 77 ?_;refine ax 2 78 ?_;refine ax 4 80 ?_;refine aL 3 ?_;intro K hK;go_simp;refine(LT _).mono ?_;rintro e wx ⟨rfl,hx⟩;have iH:=af (iH.ext hx);refine hK.ae _ _ (fun _=>bU _ _ _ iH.blk) ?_;clear hK hx;have aH:=af (bU _ _ _ iH.blk);refine ax 5 81 ?_;refine aL 6 ?_;intro K hK;go_simp;refine hK.ae _ _ (fun _=>bU _ _ _ (iH.blk.ext ((aC _).alloc _))) ?_;refine aP fun WZ cD BX=> ?_;have iH:=af (iH.ext cD);clear hK;refine iO 7 Ok ?_;intro o ho K hK;simp only[fU,eB,dR,dG] at ho;subst ho;refine mr rfl ?_;obtain⟨xq,RQ,CQ⟩:=iH.ol;rw[j_.ae] at RQ;have cK:(i+1)*40<=140737488355328:=Om;refine qO _ _ 27 rfl W.heap.size acz _ _ _ rfl RQ _ [aO tn,.slice Al l2.length cl] BX.ae 1 1 rfl rfl rfl cK iH.sz ?_;intro v' wq iX kS nW;obtain⟨Aq,cq,rfl,_,_,_⟩:=dZ iX;have S6:=af (iH.aiO HQ (x:=(tn,l2)) j_ RQ CQ d_ iX kS);clear RQ CQ iX kS nW BX;simp only[Act.put,dN,dB,dO];refine hK.ae _ _ (fun _=>bU _ _ _ S6.blk) ?_;have aH:=af (bU _ _ _ S6.blk);refine ax 8 84 ?_;have hc0:=S6.blk.aD 1;have ly:=S6.blk.frozen 1;obtain⟨W7,jo,S7,qi⟩:=S6.put HQ 1 (.slice Aq (i+1) cq);have lA:=af jo;clear jo hK;refine aL 9 ?_;intro K hK;go_simp;refine hK.ae _ _ Oe ?_;rw[lA.ae];refine bY Ok ?_;clear hc0 ly qi hK;go_wp2_with fail
 go_roundw;exact⟨i+1,_,_,mX,aA++ [(tn,l2)],_,by omega,by go_num,by rw[bC,j_.ae];rfl,nt,fun _=>Xy,Gs,j9,Z1,S7⟩;simp [RowKit.intOf];omega):=h
def m4(h:ai:=by
 simp only[Act.put,dN,dB,dO];have hgd:=Ex gK;refine aL 6 ?_;intro K hK;go_simp;refine hK.ae _ _ (fun _=>aH.alloc _) ?_;refine aP fun WZ cD BZ=> ?_;have CX:=af (jM gK cD);have nE:=af (iK.VL (.jd cD.ae) (.jd cD.ae));have FV:=af (cQ zn cD);have Nd:=af (F6.ext cD);have dU:=af (bZ.trans cD);have qm:ah (WZ.ownsRow wd.heap.size oX 5 (.slice (some ⟨wd.heap.size,0,none⟩) 1 1) 1 [.slice B vs.length d,.bool x1,.slice X2 x3 x4,.bool y1,.slice Y2 y3 y4]):=PH BZ rfl (aK _) Od;have hzz:wd.heap.size<=WZ.heap.size:=cD.size;clear hK;have hlx:xs.length=o.length*5:=CX.1;have yS:(xs.drop (k*5)).length=(o.length - k)*5:=by rw[oB,hlx];omega
 have yU:(1+(o.length - k))*88<=140737488355328:=Om;have Zk:(k+(1+(o.length - k)))*88<=140737488355328:=Om;obtain⟨ad,had,vh⟩:∃ad,(if co=k then some (⟨go',0,none⟩:Addr) else some ⟨go',k*5,none⟩)=some ad/\Sl WZ oX (some ad) (xs.drop (k*5)):=by
  by_cases sF:co=k
  ·have h0:xs.drop (k*5)= []:=lH (by rw[yS];omega);exact⟨⟨go',0,none⟩,if_pos sF,by rw[h0];exact Sl.nil⟩
  ·exact⟨⟨go',k*5,none⟩,if_neg sF,acM CX⟩
 rw[had];have zo:=af vh;clear had vh;refine iO 10 Ok ?_;intro oo rr K hK;simp only[fU,eB,dR,dG] at rr;subst rr;refine mr rfl ?_;refine AX _ _ Lv rfl wd.heap.size Pe _ _ _ rfl qm.ae ad (o.length - k) (co - k) (xs.drop (k*5)) rfl yS zo (fun u hu=>adB nE u (Dz hu)) yU hzz ?_;intro v8 w8 rv LC _;have vq:WZ.grownBy w8 (some wd.heap.size):=LC;clear LC;obtain⟨A8,c8,rfl,_,_,_⟩:=dZ rv;obtain⟨g8,rfl,avk,avj⟩:=xX rv Om;have qs:=af rv;have Gl:=af (jV cD qm vq (aK _));have Ge:ah (∀u,oX≠u->Kept u WZ w8):=fun u hu=>jW qm vq hu;have jS:=af (jV dU qm vq L3);have zt:=af (jw CX vq (fun q hq he=>by
  have e1:wd.heap.size=q:=by injection hq
  have e2:go'=q:=by simpa [Value.ownBlock] using he
  have:=hgd;omega))
 have ur:=af (nE.VL (Ge _ Od) (Ge _ Od));have FT:=af (TL.yl FV (Ge _ Od));have Z8:=af (Nd.keep (Ge _ Od));have tR:w0.heap.size<=w8.heap.size:=jS.size;clear rv vq BZ;simp only[Act.put,dN,dB,dO];refine hK.ae _ _ (fun _=>Gl.ae) ?_;clear hK;refine iO 11 Ok ?_;intro oo rr K hK;simp only[fU,eB,dR,dG] at rr;subst rr;refine mr rfl ?_;have YZ:([Value.slice B vs.length d,.bool x1,.slice X2 x3 x4,.bool y1,.slice Y2 y3 y4]++xs.drop (k*5)).length=(1+(o.length - k))*5:=by rw[bC,yS];simp;omega
 refine AX _ _ Lv rfl w0.heap.size Pe _ _ _ rfl (Ho zt hk) ⟨g8,0,none⟩ _ _ _ rfl YZ (wm qs) ?_ Zk tR ?_
 ·intro u hu;rcases bQ.1 hu with hu|hu
  ·simp only[aI,bF,or_false] at hu;rcases hu with rfl|rfl|rfl|rfl|rfl<;>rfl
  ·exact adB ur u (Dz hu)
 intro v9 w9 p8 uX _;have o5:w8.grownBy w9 (some go'):=uX;clear uX;have Gd:ah (∀u,oX≠u->Kept u w8 w9):=fun u hu=>jW (Ho zt hk) o5 hu;have ed:=af (jV jS (Ho zt hk) o5 (aK _));have iJ:=af (art (x:=(vs,q)) (k:=k) (ur.VL (Gd _ Od) (Gd _ Od)) ⟨B,d,x1,X2,x3,x4,y1,Y2,y3,y4,rfl,TL.yl FT (Gd _ Od),Z8.keep (Gd _ Od)⟩);have ke:ah (bH oX 5 jh w0.heap.size w9 v9 (o.take k++(vs,q)::o.drop k)):=⟨_,by have e:(o.take k++(vs,q)::o.drop k).length=k+(1+(o.length - k)):=(by rw[bC,cP,cW,oB];omega);rw[e];exact p8,iJ⟩
 obtain⟨A9,c9,rfl,_,_,_⟩:=dZ p8;clear p8 o5;simp only[Act.put,dN,dB,dO];refine hK.ae _ _ Oe ?_;clear hK;refine aL 12 ?_;intro K hK;go_simp;refine hK.ae _ _ Oe ?_;refine bY Ok ?_;clear hK;go_wp2_with fail;refine bodyPost_ret (v:= .slice A9 _ c9) (by simp [results,results40,go_sem];rfl) rfl ⟨_,rfl,?_,ed⟩;rw[HN.ae];exact ke):=h
def m5(h:ai:=by
 simp only[Act.put,dN,dB,dO];have hgd:=Ex gK;refine aL 4 ?_;intro K hK;go_simp;refine hK.ae _ _ (fun _=>aH.alloc _) ?_;refine aP fun WZ cD BZ=> ?_;have CX:=af (jM gK cD);have nE:=af (iK.PD (.jd cD.ae));have FV:=af (cQ zn cD);have dU:=af (bZ.trans cD);have qm:ah (WZ.ownsRow wd.heap.size dJ 2 (aG wd.heap.size 0 1 1) 1 [.slice Bi xv.length di,av xw]):=PH BZ rfl (aK _) Od;have hzz:wd.heap.size<=WZ.heap.size:=cD.size;clear hK;have hlx:xs.length=o.length*2:=CX.1;have yS:(xs.drop (k*2)).length=(o.length - k)*2:=by rw[oB,hlx];omega
 have yU:(1+(o.length - k))*32<=140737488355328:=Om;have Zk:(k+(1+(o.length - k)))*32<=140737488355328:=Om;obtain⟨ad,had,vh⟩:∃ad,(if co=k then some (⟨go',0,none⟩:Addr) else cT go' (k*2))=some ad/\Sl WZ dJ (some ad) (xs.drop (k*2)):=by
  by_cases sF:co=k
  ·have h0:xs.drop (k*2)= []:=lH (by rw[yS];omega);exact⟨⟨go',0,none⟩,if_pos sF,by rw[h0];exact Sl.nil⟩
  ·exact⟨⟨go',k*2,none⟩,if_neg sF,acM CX⟩
 rw[had];have zo:=af vh;clear had vh;refine iO 8 Ok ?_;intro oo rr K hK;simp only[fU,eB,dR,dG] at rr;subst rr;refine mr rfl ?_;refine AX _ _ eG rfl wd.heap.size xT _ _ _ rfl qm.ae ad (o.length - k) (co - k) (xs.drop (k*2)) rfl yS zo (fun u hu=>adE nE u (Dz hu)) yU hzz ?_;intro v8 w8 rv LC _;have vq:WZ.grownBy w8 (some wd.heap.size):=LC;clear LC;obtain⟨A8,c8,rfl,_,_,_⟩:=dZ rv;obtain⟨g8,rfl,avk,avj⟩:=xX rv Om;have qs:=af rv;have Gl:=af (jV cD qm vq (aK _));have Ge:ah (Kept bI WZ w8):=jW qm vq Od;have jS:=af (jV dU qm vq L3);have zt:=af (jw CX vq (fun q hq he=>by
  have e1:wd.heap.size=q:=by injection hq
  have e2:go'=q:=by simpa [Value.ownBlock] using he
  have:=hgd;omega))
 have ur:=af (nE.PD Ge);have FT:=af (TL.yl FV Ge);have tR:w.heap.size<=w8.heap.size:=jS.size;clear rv vq BZ;simp only[Act.put,dN,dB,dO];refine hK.ae _ _ (fun _=>Gl.ae) ?_;clear hK;refine iO 9 Ok ?_;intro oo rr K hK;simp only[fU,eB,dR,dG] at rr;subst rr;refine mr rfl ?_;have YZ:([Value.slice Bi xv.length di,av xw]++xs.drop (k*2)).length=(1+(o.length - k))*2:=by rw[bC,yS];simp;omega
 refine AX _ _ eG rfl w.heap.size xT _ _ _ rfl (Ho zt hk) ⟨g8,0,none⟩ _ _ _ rfl YZ (wm qs) ?_ Zk tR ?_
 ·intro u hu;rcases bQ.1 hu with hu|hu
  ·rcases aI.1 hu with rfl|hu
   ·rfl
   ·rw[bG.1 hu];rfl
  ·exact adE ur u (Dz hu)
 intro v9 w9 p8 uX _;have o5:w8.grownBy w9 (some go'):=uX;clear uX;have Gd:ah (Kept bI w8 w9):=jW (Ho zt hk) o5 Od;have ed:=af (jV jS (Ho zt hk) o5 (aK _));have iJ:=af (ar3 (x:=(xv,xw)) (k:=k) (ur.PD Gd) (TL.yl FT Gd));have ke:ah (bH dJ 2 eh w.heap.size w9 v9 (o.take k++(xv,xw)::o.drop k)):=⟨_,by have e:(o.take k++(xv,xw)::o.drop k).length=k+(1+(o.length - k)):=(by rw[bC,cP,cW,oB];omega);rw[e];exact p8,iJ⟩
 obtain⟨A9,c9,rfl,_,_,_⟩:=dZ p8;clear p8 o5;simp only[Act.put,dN,dB,dO];refine hK.ae _ _ Oe ?_;clear hK;refine aL 10 ?_;intro K hK;go_simp;refine hK.ae _ _ Oe ?_;refine bY Ok ?_;clear hK;go_wp2_with fail;go_roundw;exact⟨i+1,by omega,by go_num,by rw[nC.ae,HN.ae];exact ke,ed⟩;simp [RowKit.intOf];omega):=h
def m6(h:ai:=by
 go_upto_region 58 with fail
 go_loopw [19] (fun v19 wr=>∃k:Nat,k<=i/\v19= .int .i64 k/\ah (Ext w6 wr)) (fun v19 _=>i - (RowKit.intOf v19).toNat)
 exact⟨0,aT _,rfl,aC _⟩;obtain⟨k,Ci,rfl,iI⟩:=hrel;by_cases Mk:k<i
 ·have dE:k<x.bk.length:=Om;have hkM:k<M:=Om;have Mx:=zF k Mk;have F7:=af (fun w' hx=>HP w' hx k dE);generalize x.bk[k].1=ak at*;clear dE;have Gy:=af (lF.ext iI);have qB:=af (BA.ext iI);have Gj:=af (Dl.trans iI);clear s0 s1 s2 s3 q0 q1 q2 o7;go_upto_region 60 with fail
  have bL:ah (∀w',Ext wr w'->ay w' w.heap.size 2 (aG g o M e)/\ay w' g (o+k*3) (.int .i64 ak)/\ay w' wo.heap.size 0 (.int .i64 q)):=fun w' hx=>⟨(Gy.ext hx).aD 2,F7.ae w' (Gj.trans hx),(qB.ext hx).aD 0⟩;have aH:ah (Ext wr wr.drew):=(aC wr).drew;refine b9 (S:=fun w'=>Ext wr w') (T:=fun _=>false) Ok ?_;refine ax 0 235 ?_;refine ax 1 236 ?_;refine ax 2 237 ?_;refine ax 3 238 ?_;refine ax 4 239 ?_;refine ax 5 240 ?_;refine ax 6 241 ?_;refine ax 7 242 ?_;refine ax 8 243 (v:= .bool false) ?_;refine bY Ok ?_;have kV:=af (iI.trans aH);clear bL aH;go_wp2_with fail
  go_roundw;exact⟨k+1,by omega,by go_num,kV⟩;simp [RowKit.intOf];omega
 ·obtain rfl:i=k:=Om;have qB:=af (BA.ext iI);have Gy:=af (lF.ext iI);have kV:=af (jG.trans iI);clear s0 s1 s2 s3 q0 q1 q2 o7;obtain⟨s0,s1,s2,s3⟩:=Gy.four;have q0:=qB.aD 0;go_wp2_with fail
  go_roundw;exact⟨i+1,by omega,by go_num,kV⟩;simp [RowKit.intOf];omega):=h
def m7(h:ai:=by
 skip
 obtain⟨tn,vg⟩:∃tn,[114]++ [UInt8.ofNat (97+i)]=tn:=⟨_,rfl⟩;have LT:=af (fun w'=>Uo [114] i w' Om Ou);rw[vg] at LT;have Jp:=af vg;clear vg;have Xy:1<=mX.length:=Om;go_upto_region 20 with fail
 refine aP fun W5 en BI=> ?_;have d_:ah (IL W5 (aG wr.heap.size 0 1 1) [0]):=mf (l:= [(0:Int)]) BI ⟨[av 0],[],rfl,rfl,rfl⟩ Ou;have lB:=af (mH.ext en);have j9:ah (tD mX.length (aA++ [(tn,[0])])):=by have h:=tD.snoc (fZ.mono (by rw[C_.ae];exact rx)) (x:= [0]) Ou (fun a ha=>by rw[bG.1 ha];omega) (JW _ _);rw[j_.ae,show [114,UInt8.ofNat (97+i)]= [114]++ [UInt8.ofNat (97+i)] from rfl,Jp.ae] at h;exact h
 have Z1:ah (Qi mX.length (aA++ [(tn,[0])])):=fun a ha=>by
  rcases cA a n0 with h|h
  ·obtain⟨r,hr,h'⟩:=Z2 a (by rw[C_.ae];exact h);exact⟨r,bQ.2 (.inl hr),h'⟩
  ·have:=mJ.all a h ha;cases this
 clear hb0 BI;have iH:=af (lB.ae).PX;have hb1:=iH.blk.aD 1;go_upto_region 20 with fail
 obtain⟨S,dw⟩:∃S:World->Prop,S=fun w'=>ay w' (w.heap.size+1) 1 (.slice A1 i c1):=⟨_,rfl⟩;have bL:ah (∀w',S w'->ay w' (w.heap.size+1) 1 (.slice A1 i c1)):=ay4;have bU:ah (∀w' x l,ar w' (w.heap.size+1) kN (x:: .slice A1 i c1::l)->S w'):=by rw[ah,dw];exact fun w' x l h=>h.aD 1
 clear dw hb1;have iH:=af (iH.ext (aC W5).drew);have aH:ah (S (W5).drew):=bU _ _ _ iH.blk;refine b9 (S:=S) (T:=fun j=>decide (9<=j)) Ok ?_;generalize(W5).drew=wd at*;refine ax 0 76 ?_;refine ax 1 77 ?_;refine ax 2 78 ?_;refine ax 4 80 ?_;refine aL 3 ?_;intro K hK;go_simp;refine(LT _).mono ?_;rintro e wx ⟨rfl,hx⟩;have iH:=af (iH.ext hx);refine hK.ae _ _ (fun _=>bU _ _ _ iH.blk) ?_;clear hK hx;have aH:=af (bU _ _ _ iH.blk);refine ax 5 81 ?_;refine aL 6 ?_;intro K hK;go_simp;refine hK.ae _ _ (fun _=>bU _ _ _ (iH.blk.ext ((aC _).alloc _))) ?_;refine aP fun WZ cD BX=> ?_;have iH:=af (iH.ext cD);clear hK;refine iO 7 Ok ?_;intro o ho K hK;simp only[fU,eB,dR,dG] at ho;subst ho;refine mr rfl ?_;obtain⟨xq,RQ,CQ⟩:=iH.ol;rw[j_.ae] at RQ;have cK:(i+1)*40<=140737488355328:=Om;refine qO _ _ 27 rfl W.heap.size acz _ _ _ rfl RQ _ [aO tn,aG wr.heap.size 0 1 1] BX.ae 1 1 rfl rfl rfl cK iH.sz ?_;intro v' wq iX kS nW;obtain⟨Aq,cq,rfl,_,_,_⟩:=dZ iX;have S6:=af (iH.aiO HQ (x:=(tn,[0])) j_ RQ CQ d_ iX kS);clear RQ CQ iX kS nW BX;simp only[Act.put,dN,dB,dO];refine hK.ae _ _ (fun _=>bU _ _ _ S6.blk) ?_;have aH:=af (bU _ _ _ S6.blk);refine ax 8 84 ?_;have hc0:=S6.blk.aD 1;have ly:=S6.blk.frozen 1;obtain⟨W7,jo,S7,qi⟩:=S6.put HQ 1 (.slice Aq (i+1) cq);have lA:=af jo;clear jo hK;refine aL 9 ?_;intro K hK;go_simp;refine hK.ae _ _ Oe ?_;rw[lA.ae];refine bY Ok ?_;clear hc0 ly qi hK;go_wp2_with fail
 go_roundw;exact⟨i+1,_,_,mX,aA++ [(tn,[0])],_,by omega,by go_num,by rw[bC,j_.ae];rfl,nt,fun _=>Xy,Gs,j9,Z1,S7⟩;simp [RowKit.intOf];omega):=h
def m8(h:ai:=by
 go_wp2_with fail
 refine(oM g 4 _ (d8.ae).src Od Od).mono ?_;rintro e wx ⟨r2,hr2,rfl,tT,rq⟩;have d8:=af ((d8.ae).call HQ rq tT);have xM:=af (xM.only rq Om);clear tT rq lS;have lS:=xM.aD 1;by_cases hr2:0<r2
 ·have hb2:decide ((r2:Int)>0)=true:=fF;go_upto_region 27 with fail
  obtain⟨S,dw⟩:∃S:World->Prop,S=fun w'=>ay w' (w.heap.size+1) 2 (.slice Af bk.length cf):=⟨_,rfl⟩;have bL:ah (∀w',S w'->ay w' (w.heap.size+1) 2 (.slice Af bk.length cf)):=ay4;have bU:ah (∀w' x y l,ar w' (w.heap.size+1) kN (x::y:: .slice Af bk.length cf::l)->S w'):=by rw[ah,dw];exact fun w' x y l h=>h.aD 2
  clear dw;have d8:=af (d8.ext (aC wx).drew);have aH:ah (S (wx).drew):=bU _ _ _ _ d8.blk;refine b9 (S:=S) (T:=fun j=>decide (9<=j)) Ok ?_;generalize(wx).drew=wd at*;refine ax 0 118 ?_;refine ax 1 119 ?_;refine ax 2 120 ?_;refine ax 3 121 ?_;refine aL 4 ?_;intro K hK;go_simp;refine(oM g 2 _ d8.src Od Od).mono ?_;rintro e wy ⟨ms,hms,rfl,tT,rq⟩;have d8:=af (d8.call HQ rq tT);refine hK.ae _ _ (fun _=>bU _ _ _ _ d8.blk) ?_;clear hK tT rq;have aH:=af (bU _ _ _ _ d8.blk);refine ax 5 123 ?_;refine aL 6 ?_;intro K hK;go_simp;refine hK.ae _ _ (fun _=>bU _ _ _ _ (d8.blk.ext ((aC _).alloc _))) ?_;refine aP fun WZ cD BX=> ?_;have d8:=af (d8.ext cD);clear hK;refine iO 7 Ok ?_;intro o ho K hK;simp only[fU,eB,dR,dG] at ho;subst ho;refine mr rfl ?_;obtain⟨xq,RQ,CQ⟩:=d8.of;have cK:(bk.length+1)*24<=140737488355328:=by have:=vI.len;omega
  refine qO _ _ 28 rfl W.heap.size ac_ _ _ _ rfl RQ _ [av j,av 1,av ms] BX.ae 1 1 rfl rfl rfl cK d8.sz ?_;intro v' wq iX kS nW;obtain⟨Aq,cq,rfl,_,_,_⟩:=dZ iX;have S6:=af (d8.aiQ HQ (x:=((j:Int),1,(ms:Int))) rfl RQ CQ iX kS);clear RQ CQ iX kS nW BX;simp only[Act.put,dN,dB,dO];refine hK.ae _ _ (fun _=>bU _ _ _ _ S6.blk) ?_;have aH:=af (bU _ _ _ _ S6.blk);refine ax 8 126 ?_;have hc0:=S6.blk.aD 2;have ly:=S6.blk.frozen 2;obtain⟨W7,jo,S7,qi⟩:=S6.put HQ 2 (.slice Aq (bk.length+1) cq);have lA:=af jo;clear jo hK;refine aL 9 ?_;intro K hK;go_simp;refine hK.ae _ _ Oe ?_;rw[lA.ae];refine bY Ok ?_;have nC:=af (vI.snoc HAJ (k:=1) (m:=(ms:Int)) (.inl ⟨rfl,rfl,by omega⟩));clear hc0 ly qi hK lS;go_wp2_with fail
  go_roundw;exact⟨j+1,_,bk++ [((j:Int),1,(ms:Int))],_,by omega,by go_num,nC,S7⟩;simp [RowKit.intOf];omega
 ·have hb2:decide ((r2:Int)>0)=false:=aW;go_wp2_with fail;go_roundw;exact⟨j+1,_,bk,_,by omega,by go_num,vI.skip,d8⟩;simp [RowKit.intOf];omega):=h
def m9(h:ai:=by
 intro k b hb us w3 hI ry _ o ho K hK;obtain⟨Zx,ME⟩:=ul w3 hI;have Mc:pb<W.heap.size:=cE hpl HX.size;have hsz:W.heap.size<=w3.heap.size:=Zx.size;have xF:=af Zx;have sN:=af ME;have HK:=af (fun v w' (hc:a7 [pb] w3 w') (hm:dF x pb w') (h0:b.R v w')=>hK v w' (kE w' (xF.trans hc) hm) h0 fun j c hj _ u hu=>by
  refine⟨?_,trivial,trivial⟩;rcases j with _|_|_|_|j;all_goals simp only[dR,eB,aaD,dG,reduceCtorEq] at hj
  all_goals subst hj
  ·exact Iw.bP hu sN hc
  ·exact EU.bP hu hc Mc
  ·exact ET.bP hu hc Mc
  ·exact EW.bP hu hc Mc)
 clear hK Zx ME hI;rcases k with _|_|_|_|k
 ·have CP:=af (anO jb pb x T aN first w3 (HBW.bP HMW hne xF) sN h1 h2);simp only[dR,dG] at hb;subst hb;clear ry;simp only[fU,eB,dR,dG] at ho;subst ho;simp only[fA];go_simp;have kY:=HK.ae;simp only[fA,Act.put,dN,dB,dO] at kY;refine CP.mono ?_;rintro e5 w5 ⟨u5,rfl,hp5,Re,qg⟩;exact kY _ _ qg Re hp5
 ·have lR:=anA x.aq.length Om;simp only[dR,eB,dG] at hb;subst hb;clear ry;simp only[fU,eB,dR,dG] at ho;subst ho;simp only[fA];go_simp;have kY:=HK.ae;simp only[fA,Act.put,dN,dB,dO] at kY;exact kY _ _ (.ij ((aC w3).alloc _)) (sN.ext ((aC w3).alloc _)) ⟨_,rfl,by unfold uR;rw[OO];exact kq w3 bI (List.replicate x.aq.length (Value.string ⟨#[]⟩)),hsz⟩
 ·have lR:=Kj x.aq.length Om;simp only[dR,eB,dG] at hb;subst hb;clear ry;simp only[fU,eB,dR,dG] at ho;subst ho;simp only[fA];go_simp;have kY:=HK.ae;simp only[fA,Act.put,dN,dB,dO] at kY;exact kY _ _ (.ij ((aC w3).alloc _)) (sN.ext ((aC w3).alloc _)) ⟨_,rfl,by unfold gf;rw[OO];exact kq w3 gh (List.replicate x.aq.length (Value.bool false)),hsz⟩
 ·skip
  simp only[dR,eB,dG] at hb;subst hb;clear ry;simp only[fU,eB,dR,dG] at ho;subst ho;simp only[fA];go_simp;have kY:=HK.ae;simp only[fA,Act.put,dN,dB,dO] at kY;exact kY _ _ (.ij ((aC w3).alloc _)) (sN.ext ((aC w3).alloc _)) ⟨_,rfl,KB w3 bI,hsz⟩
 ·simp at hb):=h
def m10(h:ai:=by
 have au4:q≠ob:=fun e=>by have h1:=HQ.ae;have h2:=HB.ae;subst e;unfold ar at h1 h2;rw[h1] at h2;injection h2 with h;injection h with _ h;exact absurd h Od
 have b0:=HB.aD 0;have f0:=HB.frozen 0;have Fk:=HB.lt;obtain⟨W4,I9,B4,K4,N4⟩:=gp (i:=0) HB (aG q 0 x.aq.length x.aq.length);have mH:=af (qq.past N4 Om);have ZR:ah (Only g W W4):=za.fresh N4 YS;have Nd:=af (HQ.only N4 au4);have HSn:=af (kE _ ZR mH);refine aL 11 ?_;intro K hK;go_simp;refine hK.ae _ _ (fun _=>HSn.ae) ?_;clear hK b0 f0 K4 N4;refine aL 12 ?_;intro K hK;go_simp;refine hK.ae _ _ (fun _=>HSn.ae) ?_;refine bY Ok ?_;clear hK;have Dp:=af (BR.only ZR Om);have o0:=B4.aD 0;have r0:=Dp.aD 0;have f0:=Dp.frozen 0;have Mf:=Dp.lt;obtain⟨W5,hW5,B5,K5,N5⟩:=gp (i:=0) Dp (aG q 0 x.aq.length x.aq.length);have lB:=af (mH.past N5 Om);have ud:ah (Only g w W5):=((ei (g:=g) HX).trans ZR.ae).fresh N5 Om;have Z':=af (Nd.only N5 Om);clear K5 N5 I9;go_wp2_with fail
 exact bodyPost_ret (results_cell_row rfl _ _ (w.heap.size+1) uW #[aG q 0 x.aq.length x.aq.length] (0,0) _ rfl B5.ae underlying32 rfl Ok) rfl ⟨q,pp,dd,rfl,Z',lW,by omega,lB,ud⟩):=h
def m11(h:ai:=by
 go_wp2_with fail
 have bh:ah (Ext w (((w.alloc (Obj.cells #[Value.bool ba,Value.slice Aa na ca] dC)).alloc (Obj.cells #[Value.bool bb,Value.slice Ab nb cb] dC)).alloc (Obj.cells #[Value.bool false,Value.slice none 0 0] dC))):=(((aC w).alloc _).alloc _).alloc _;have H0:=af (lQ.new w (.bool ba) (.slice Aa na ca) (.bool bb) (.slice Ab nb cb) (.bool false) (.slice none 0 0));generalize((w.alloc (Obj.cells #[Value.bool ba,Value.slice Aa na ca] dC)).alloc (Obj.cells #[Value.bool bb,Value.slice Ab nb cb] dC)).alloc (Obj.cells #[Value.bool false,Value.slice none 0 0] dC)=W at*;exact IH):=h
def m12(h:ai:=by
 refine iO 5 Ok ?_;intro o ho K hK;simp only[fU,eB,dR,dG] at ho;subst ho;refine mr rfl ?_;have hown:=HO rfl;refine qO _ _ rW rfl wr.heap.size str_slice _ _ _ rfl hown _ [aO t] (BN rfl) 1 1 rfl rfl rfl cK HX.size ?_;intro vA wA IV I4 _;have HA:ah (QH wr.heap.size (kp.length+1) (kp.map encStr++ [aO t]) vA wA):=IV;have HX:=af (jV HX hown I4 (aK _));clear hown IV I4;simp only[Act.put,dN,dB,dO];refine hK.ae _ _ (fun _=>bU _ HX) ?_;clear hK;refine iO 9 Ok ?_;intro o ho K hK;simp only[fU,eB,dR,dG] at ho;subst ho;go_simp;refine(CWr _ HX).mono ?_;rintro eW wW ⟨gW,rfl,hfW,Zb,IM⟩;have HFx:ah (FxQ wr.heap.size gW (fC fx a t) wW):=⟨hfW,a8 HX.size Zb⟩;have HA:=af (HA.ext (IM));have HX:=af (HX.trans IM);refine hK.ae _ _ (fun _=>bU _ HX) ?_;clear hK;obtain⟨A5,c5,rfl, -, -, -⟩:=dZ HA;have Jq:=arE HA;have Xq:(kp++ [t]).length=kp.length+1:=aAt;rw[Xq] at Jq;have HId:=HE.hS dn wr _ HI (.ij HX.ae) ((HE.hJ dn wr HI).ext HX.ae);have CI:=HIH t dn gW _ A5 c5 HId HFx.1 (a8 (I8.size) HFx.2) (by rw[Xq];exact Jq) (by rw[HGN.ae t];exact Xv);rw[Xq] at CI;refine aL 10 ?_;intro K hK;go_simp;refine CI.mono ?_;rintro e6 w6 ⟨rfl,hI6,Mu⟩;have aH:=af ((HE.cells (HE.hI _ w6 hI6)).2.2.2);refine hK.ae _ _ (fun _=>aH.ae) ?_;clear hK;have nB:=af hI6;have nD:=af ((HC.trans (.of (.ij HX.ae))).trans Mu);refine ax 11 47 ?_;refine bY Ok ?_;go_wp2_with fail
 go_roundw
 ·refine⟨k+1,by omega,by go_num,?_,nD⟩;rw[ah,fp.ae,<-HGT.ae t];exact nB
 simp [RowKit.intOf];omega):=h
def m13(h:ai:=by have bh:ah (Ext w (((w.alloc (Obj.cells #[Value.bool ba,Value.slice Aa na ca] bD)).alloc (Obj.cells #[Value.bool bb,Value.slice Ab nb cb] bD)).alloc (Obj.cells #[Value.bool false,Value.slice none 0 0] bD))):=(((aC w).alloc _).alloc _).alloc _;have H0:=af (fV.new w (.bool ba) (.slice Aa na ca) (.bool bb) (.slice Ab nb cb) (.bool false) (.slice none 0 0));generalize((w.alloc (Obj.cells #[Value.bool ba,Value.slice Aa na ca] bD)).alloc (Obj.cells #[Value.bool bb,Value.slice Ab nb cb] bD)).alloc (Obj.cells #[Value.bool false,Value.slice none 0 0] bD)=W at*;obtain⟨c0,c1,c2,c3⟩:=H0.cells;exact L1):=h
def m14(h:ai:=by
 refine C.mono ?_;rintro e w2 ⟨u,rfl,hu,hx⟩;obtain⟨a0,A0,a1,a2,b0,B0,b1,b2,rfl, -, -⟩:=hu.parts;have HU:=af hu;have aY:=af (HX.trans hx);have zO:=af (BT.ext hx);obtain⟨k0,k1,k2,k3⟩:=zO.four;obtain⟨f0,f1,f2,f3⟩:=zO.fO;go_wp2_with fail
 exact uK rfl rfl rfl zO.ae HU fun v W' g1 g2=>⟨v,rfl,g1,aY.only g2 Om⟩):=h
def m15(h:ai:=by
 simp only[Act.put,dN,dB,dO];refine ax 12 113 ?_;refine aL 13 ?_;intro K hK;go_simp;refine hK.ae _ _ (fun _=>bU _ (zf.alloc _)) ?_;refine aP fun WZ cD BZ=> ?_;have nQ:=zf.trans cD;have nB:=af (jH.ext nQ);have CJ:=af (cQ FU nQ);have xB:=af (jM Sa nQ);have nD:ah (Ch (eh WZ) ys l3):=lg (fun c x hc=>fL _ _ _ _ (fun _ _=>rL nQ) hc) ND;have lF:=af (BX.ext nQ);have rp:wB.heap.size<=WZ.heap.size:=nB.bP.size;clear hK nQ gX j8;refine aL 14 ?_;intro K hK;refine mr rfl ?_;refine qO _ _ eG rfl wB.heap.size xT _ _ _ rfl xB.ae _ [.slice By yk.length dy,av (yw*(m:Int))] BZ.ae 1 1 rfl rfl rfl cK rp ?_;intro v' w7 kR EM EO;have nV:WZ.grownBy w7 (Value.slice Ap l3.length cp).ownBlock:=EM;have Fw:v'.ownBlock=(Value.slice Ap l3.length cp).ownBlock\/v'.ownBlock=some WZ.heap.size:=EO;clear EM EO;obtain⟨Aq,cq,rfl,_,_,_⟩:=dZ kR;obtain⟨wU,Rt,I0,mC⟩:=nB.mid mD xB nV (.slice Aq (l3.length+1) cq);have Ju:=af (nB.push (y:=(yk,(yw*(m:Int)))) xB nD ⟨By,dy,rfl,CJ⟩ kR nV Fw);have pg:=af ((CJ.yl (jW xB nV Od)).yl (I0 _ Od));have Gx:ah (ar w7 bx dJ [.slice By yk.length dy,av yw]):=(nV.block bx lF.lt (fun e=>Nat.lt_irrefl _ (pY bx e.symm))).trans lF.ae;have JM:=af (Gx.only mC (by have:=nB.b1;omega));simp only[Act.put,dN,dB,dO];refine hK.ae _ _ (fun _=>zr _ wU Gx) ?_;clear hK kR nV Fw I0 mC BZ;refine aL 15 ?_;intro K hK;go_simp;refine hK.ae _ _ (fun _=>zr _ wU Gx) ?_;clear hK;refine aL 16 ?_;intro K hK;go_simp;refine hK.ae _ _ Oe ?_;clear hK wU Rt;refine bY Ok ?_;generalize w7.setCell (aB g3 r) (.slice Aq (l3.length+1) cq)=w8 at*;have Su:=af Ju.PW;go_wp2_with fail
 exact k15):=h
def m16(h:ai:=by obtain⟨ba,Aa,na,ca,bb,Ab,nb,cb,rfl,HA,HB⟩:=ha.parts;obtain⟨bc,Ac,nc,cc,bd,Ad,nd,cd,rfl,HC,HD⟩:=hb.parts;have FA:=af (fa.num Om);have FB:=af (fa.den Om);have FC:=af (fb.num Om);have FD:=af (fb.den Om);have F1:=af (Hz fa.1 (by simpa using fb.2:((q.den:Int)).natAbs<_) Om);have F2:=af (Hz fb.1 (by simpa using fa.2:((p.den:Int)).natAbs<_) Om);have F3:=af (Hz (by simpa using fa.2:((p.den:Int)).natAbs<_) (by simpa using fb.2:((q.den:Int)).natAbs<_) Om);exact L0):=h
def m17(h:ai:=by
 rw[<-HA.inv.1,<-HB.inv.1] at hd;have HD:=af hd;go_enter func196,ntmps196;go_wp2_with fail
 have bh:ah (Ext w ((((w.alloc (Obj.cells #[Value.bool ba,Value.slice Aa na ca] dC)).alloc (Obj.cells #[Value.bool bb,Value.slice Ab nb cb] dC)).alloc (Obj.cells #[Value.bool false,Value.slice none 0 0] dC)).alloc (Obj.cells #[Value.bool false,Value.slice none 0 0] dC))):=((((aC w).alloc _).alloc _).alloc _).alloc _;have H0:=af ((lQ.new w (.bool ba) (.slice Aa na ca) (.bool bb) (.slice Ab nb cb) (.bool false) (.slice none 0 0)).ext ((aC _).alloc (Obj.cells #[Value.bool false,Value.slice none 0 0] dC)));have H4:=af (mm (((w.alloc (Obj.cells #[Value.bool ba,Value.slice Aa na ca] dC)).alloc (Obj.cells #[Value.bool bb,Value.slice Ab nb cb] dC)).alloc (Obj.cells #[Value.bool false,Value.slice none 0 0] dC)) dC [.bool false,.slice none 0 0] (w.heap.size+1+1+1) Ou);have h4:(Obj.cells #[Value.bool false,Value.slice none 0 0] dC)=(Obj.cells [Value.bool false,Value.slice none 0 0].toArray dC):=rfl;rw[<-h4] at H4;generalize(((w.alloc (Obj.cells #[Value.bool ba,Value.slice Aa na ca] dC)).alloc (Obj.cells #[Value.bool bb,Value.slice Ab nb cb] dC)).alloc (Obj.cells #[Value.bool false,Value.slice none 0 0] dC)).alloc (Obj.cells #[Value.bool false,Value.slice none 0 0] dC)=W at*;refine(alC _ _ x.natAbs y.natAbs W (HA.inv.2.ext bh) (HB.inv.2.ext bh) FX.fit FY.fit aAr).mono ?_;rintro e w1 ⟨q,r,rfl,hq,hr,hx1⟩;obtain⟨Aq,nq,cq,rfl,_,_,HQ⟩:=hq.parts;obtain⟨Ar,nr,cr,rfl,Q6,YN,HR⟩:=hr.parts;have bW:=af (bh.trans hx1);have H1:=af (H0.ext hx1);have H5:=af (H4.ext hx1);have fq:ah (Fit (x.natAbs/y.natAbs)):=FX.fit.le (DN _ _);have fr:ah (Fit (x.natAbs%y.natAbs)):=FX.fit.le (Nat.mod_le _ _);obtain⟨c0,c1,c2,c3⟩:=H1.cells;exact k17):=h
def m18(h:ai:=by
 have HV:=af hV;have HF:=af hF;have nt:c<=9223372036854775807:=hm;have zC:=af h0;clear hV hF h0;go_enter func246,ntmps246;go_upto_region 2 with fail
 have zG:ah (∀k,k<0->P k=false):=fun k hk=>by omega
 go_loopw [5,8] (fun _ v8 wr=>∃j:Nat,j<=n/\v8= .int .i64 j/\ah (I wr)/\ah (∀k,k<j->P k=false)) (fun _ v8 _=>n - (RowKit.intOf v8).toNat)
 exact⟨0,aT _,rfl,zC,zG⟩;obtain⟨j,hj,rfl,HI,HB⟩:=hrel;by_cases jR:j<n
 ·obtain⟨g,o,hA,hcell⟩:=HV _ _ HI jR;try obtain⟨hcell,axq⟩:=hcell
  have CF:=HF _ _ HI jR;subst hA;go_wp2_with fail;refine CF.mono ?_;rintro e w' ⟨rfl,hI⟩;have oh:=af hI;clear hI CF hcell;cases hp:P j with
  |true=>have hres:=Kv jR hp HB;go_wp2;exact bodyPost_ret (v:= .int .i64 j) (by simp [results,results246,go_sem]) rfl ⟨by rw[hres],oh⟩
  |false=>
   clear hid;have zH:ah (∀k,k<j+1->P k=false):=fun k hk=>by
    rcases cA k j with h|h
    ·exact HB k h
    ·rw[show k=j by omega];exact hp
   go_wp2;go_roundw;exact⟨j+1,by omega,by go_num,oh,zH⟩;simp [RowKit.intOf];omega
 ·have d1:decide ((j:Int)<(n:Int))=false:=aW;have avf:j=n:=Om;subst avf;have hres:=Kw HB;go_wp2;exact bodyPost_ret (v:= .int .i64 (-1)) (by simp [results,results246,go_sem]) rfl ⟨by rw[hres],HI⟩):=h
def m19(h:ai:=by
 have YI:t/B9<=1:=ay3;have YH:t%B9<1000000000:=fg _ Od;have om:=af (HD.snoc (x:=t%B9) (fg _ Od));generalize t%B9=p at*;generalize t/B9=q at*;go_wp2_with (at_builtin;refine gG rfl _ _ rh rfl w.heap.size jy _ _ _ rfl HO.ae #[.int .i64 (p:Int)] 1 1 rfl rfl rfl Om HX.size ?_)
 intro v' w3 eX hg3 _;have bZ:ah (Ext w w3):=vX HX hg3 HX.size (fun k hk=>(HO.lt k hk).1);have gL:ah (w3.ownsRow w.heap.size tI 1 v' (k+1) (dW (r++ [p]))):=by rw[ah,Hq];exact eX
 clear eX hg3 dD;go_wp2;go_roundw;exact⟨k+1,q,r++ [p],by omega,by omega,by go_num,by first|rfl|exact congrArg _ mE|exact congrArg _ Om,YI,by simp [HR.ae],om,HA,gL,bZ⟩;simp [RowKit.intOf];omega):=h
def m20(h:ai:=by
 go_wp2_with fail
 refine bodyPost_ret (v:= .bool true) (by simp [results,results31,go_sem]) rfl ?_;first|exact⟨true,rfl,fun _:true=true=>HP.ae,nY⟩|exact .inl ⟨rfl,nY⟩|exact .inr ⟨rfl,(fun _:true=true=>HP.ae) rfl,nY⟩):=h
def m21(h:ai:=by
 clear hu;go_enter func142,ntmps142;go_wp2_with fail;rw[X9.1,X9.2.1,X9.2.2];have hB:=mm w dC [.bool false,.slice none 0 0] w.heap.size rfl;refine(uO (cT (w.heap.size+1) 0) 3 3 [u%B9,u/B9%B9,u/B9/B9] _ rfl Om Om HL.1 (Sl.agc (w.alloc (Obj.cells #[.bool false,.slice none 0 0] dC)) 249 #[.int .u64 ((u%B9:Nat):Int),.int .u64 ((u/B9%B9:Nat):Int),.int .u64 ((u/B9/B9:Nat):Int)] _ Ou)).mono ?_;rintro e w' ⟨r,hr,rfl,hc,hv,hs,rfl⟩;have HV:=af (hv.trans HL.2);have HB:=af (hB.ext ((aC _).alloc (Obj.cells #[.int .u64 ((u%B9:Nat):Int),.int .u64 ((u/B9%B9:Nat):Int),.int .u64 ((u/B9/B9:Nat):Int)] 249)));have HX:ah (Ext w ((w.alloc (Obj.cells #[.bool false,.slice none 0 0] dC)).alloc (Obj.cells #[.int .u64 ((u%B9:Nat):Int),.int .u64 ((u/B9%B9:Nat):Int),.int .u64 ((u/B9/B9:Nat):Int)] 249))):=((aC w).alloc _).alloc _;have HN:=af (eU.mk' hc HV hr hs);clear hB hv hs hc;go_wp2_with fail
 refine(s6 _ _ u _ HN HF).mono ?_;rintro e w2 ⟨v2,rfl,hv2,hx2⟩;obtain⟨b2,A2,n2,c2',rfl,pd⟩:=hv2.parts;have eE:=af (HB.ext hx2);have aY:=af (HX.trans hx2);have k0:=eE.aD 0;have k1:=eE.aD 1;have k2:=eE.frozen 0;have k3:=eE.frozen 1;clear hv2 hx2;go_wp2;refine x_ rfl rfl rfl eE.ae pd aY Om (fun v W' h1 h2=>⟨v,rfl,?_,h2⟩);have:=FW.ae;rw[hd] at this;rw[this] at h1;exact h1):=h
def m22(h:ai:=by simp only[fU,eB,dR,dG] at ho;subst ho;refine⟨rfl,rfl,fun w' hSw=> ?_⟩;have hs:=bL w' hSw;go_split_ands;go_simp):=h
def m23(h:ai:=by
 have FU:=pg;have BX:=JM;have pY:∀q,v3.ownBlock=some q->q<bx:=hv3;obtain⟨Ap,cp,ys,rfl, -, -,Sa,ND⟩:=jH.r1.parts;have QE:ah (((Lr.take (i+1)).map fun z=>(z.1,z.2*(m:Int)))=((Lr.take i).map fun z=>(z.1,z.2*(m:Int)))++ [(yk,yw*(m:Int))]):=by rw[ah,fp.ae,mL];rfl
 generalize((Lr.take i).map fun z=>(z.1,z.2*(m:Int)))=l3 at*;have cK:(l3.length+1)*32<=140737488355328:=by have:=Dg.ae;omega
 go_upto_region 15 with fail
 have gX:=jH.cell1 mD;have j8:g3<w6.heap.size:=cE jH.b1 jH.bP.size;obtain⟨S,dw⟩:∃S:World->Prop,S=fun w'=>ay w' g3 r (.slice Ap l3.length cp)/\ay w' bx 0 (.slice By yk.length dy)/\ay w' bx 1 (av yw):=⟨_,rfl⟩;have bL:ah (∀w',S w'->ay w' g3 r (.slice Ap l3.length cp)/\ay w' bx 0 (.slice By yk.length dy)/\ay w' bx 1 (av yw)):=azh;have zr:ah (∀w',ay w' g3 r (.slice Ap l3.length cp)->ar w' bx dJ [.slice By yk.length dy,av yw]->S w'):=azl;have bU:ah (∀w',Ext w6 w'->S w'):=fun w' hx=>zr w' ((hx.cell (p:=aB g3 r) j8).trans gX) (BX.ext hx);have zf:ah (Ext w6 w6.drew):=(aC w6).drew;have aH:ah (S w6.drew):=bU _ zf;clear dw;refine b9 (S:=S) (T:=fun j=>decide (16<=j)) Ok ?_;generalize w6.drew=wd at*;refine ax 0 101 ?_;refine ax 1 102 ?_;refine ax 2 103 ?_;refine ax 3 104 ?_;refine ax 4 105 ?_;refine ax 5 106 ?_;refine ax 6 107 ?_;refine ax 7 108 ?_;refine ax 8 109 ?_;refine ax 9 110 ?_;refine ax 10 111 ?_;exact k23):=h
def m24(h:ai:=by
 have gK:ah (ar w3 w.heap.size bD [.bool false,.slice none 0 0]):=(hg3.block w.heap.size jT.lt (fun h=>by have:=(HOW.lt _ h.symm).1;omega)).trans jT.ae;have bZ:ah (Ext w w3):=vX bW hg3 bW.size (fun k hk=>by have:=(HOW.lt k hk).1;omega);have gL:ah (w3.ownsRow (w.heap.size+1+1) tI 1 (.slice A3 (r.length+1) c3) (r++ [x]).length (dW (r++ [x]))):=(by rw[ah,bC,Hq];exact eX)
 obtain⟨k0,k1⟩:=g7.two;have f1:=g7.frozen 1;have nG:=af (g7.bu 1 (.slice A3 (r.length+1) c3));clear eX hg3 hb3;go_wp2;exact QN):=h
def m25(h:ai:=by
 rintro e w1 ⟨rfl,h1,hb1⟩;obtain⟨hB,v,I6,hown,hne⟩:=h1;have c0:w1.cell? (aB b 0)=some (aJ b 0):=by rw[DL I6];rfl
 have c1:w1.cell? (aB b 1)=some v:=by rw[DL I6];rfl
 go_wp2_with (at_builtin;refine Lib.wpList_append_own_string _ rfl _ _ 192 9 rfl B t8 i0 underlying192 underlying9 hi hz0 hz1 hz2 _ _ _ rfl hown s rfl ?c3 ?c4 ?c5 ?_)
 case c3=>unfold maxLen;omega
 case c4=>omega
 case c5=>have:=hb1.size;omega
 intro v' w2 hown' hgrow _;have hlt:b<w1.heap.size:=by
  rcases cA b w1.heap.size with h'|h'
  ·exact h'
  ·simp [zS h'] at I6
 have hb2:w2.heap[b]?=some (.cells #[aJ b 0,v] tB (0,0)):=(by rw[hgrow.block b hlt (fun e=>hne e.symm)];exact I6);have d0:w2.cell? (aB b 0)=some (aJ b 0):=by rw[DL hb2];rfl
 have d1:w2.cell? (aB b 1)=some v:=by rw[DL hb2];rfl
 have f1:=Lib.frozen_of_heap hb2 1;obtain⟨ao,n',cap,rfl⟩:∃ao n' cap,v'= .slice ao n' cap:=by
  rcases hown'.2 with⟨hv,_⟩|⟨g,cap,cur,hv,_⟩
  ·exact⟨_,_,_,hv⟩
  ·exact⟨_,_,_,hv⟩
 go_wp2;go_ret2;refine⟨rfl,?_,?_⟩
 ·exact Lib.BuilderAt.put hB hb2 (bs':=bs++Lib.strCells s) (by simpa [Lib.strCells_length] using hown') Od
 ·exact(hb1.grown hgrow (by have:=hb1.size;omega) (fun k hk=>(hown.lt k hk).1)).setCell hB _):=h
def m26(h:ai:=by
 obtain⟨gl,ol,hA,gX⟩:=nK d_ dE HX.k2;subst hA;obtain⟨hr,y,hy,hF,hwy⟩:=XU hl[k] (aZ dE);have Dk:=af (HG k);have fp:=af (SR.acE (R:=D.R) (f:=wh) dE (D.g v t));have Q1:hl[k]<D.T.length:=by rw[RB];exact hr
 obtain⟨gt,ot,A1,c1,hAt,I2,Jy,Mb⟩:=fS.get zm Q1;subst hAt;have FK:=af (aN.wb _ (km.2 hr));have QV:=aN.tl _ (aZ Q1);have Jt:=af (lV _ _ (aV hr));have Sc:=af (Qy _ _ _ (aV hr) (aV Q1));have n_:=af (aV hr);rw[uP hr] at hF;have hTX:bR D.T hl[k]=D.T[hl[k]]:=by unfold bR;rw[aV Q1];rfl
 rw[hTX] at hF hy FK;have e0:=HX.st.sx.cell HX.st.c0;have e1:=(HX.st.ex.cell (p:=aB D.jb 4) dX).trans tS;have e2:=(HX.st.ex.cell (p:=aB gt (ot+hl[k])) I2).trans Mb;have e3:=gX;obtain⟨-,hr1,hr2⟩:=bE Jy;clear gX Mb hTX;generalize D.T[hl[k]]=rows at*;generalize D.x.aA[hl[k]]=rl at*;generalize hl[k]=r at*;go_upto_region 7 with fail
 clear e0 e1 e2 e3;obtain⟨q,hq⟩:∃q:Rw->Bool,q=fun y=>ey (cV (bK D.p v) v) (put cur v t) (cj rl.2) y.1:=⟨_,rfl⟩;have HQ:ah (∀y,q y=ey (cV (bK D.p v) v) (put cur v t) (cj rl.2) y.1):=by rw[hq];exact fun _=>rfl
 rw[<-hq] at hF;have HF:=af hF;have ZT:=af hwy;clear hq hF hwy;generalize D.R.mul (D.g v t) (D.R.prod (hl.take k) wh)=a0 at*;generalize wr=w4 at*;exact k26):=h
def m27(h:ai:=by
 intro us w3 hI hR _;have hP:oP w3 (us 0) x first:=hR 0 _ rfl
 obtain⟨nb,e1,BN,wV⟩:EU x.aq.length W.heap.size (us 1) w3:=hR 1 _ rfl;obtain⟨sb,e2,BS,E_⟩:ET x.aq.length W.heap.size (us 2) w3:=hR 2 _ rfl;obtain⟨kb,e3,BK,hkb⟩:EW W.heap.size (us 3) w3:=hR 3 _ rfl;obtain⟨pc,pk,ph,pA,pm,pn,e0⟩:=hP.parts;rw[e0] at hP;have HP:=af hP;have HN:=af BN;have R_:=af BS;have HMb:=af BK;simp only[fA,e0,e1,e2,e3,Act.put,dN,dB,dO];have aH:ah (I w3):=hI;have HI:=af (ul w3 hI);have hsz:W.heap.size<=w3.heap.size:=HI.1.size;clear hI hR e0 e1 e2 e3 hP BN BS BK;refine ax 13 33 ?_;refine aL 14 ?_;intro K hK;go_simp;refine hK.ae _ _ (fun _=>kE _ (HI.1.ext ((aC w3).alloc _)) (HI.2.ext ((aC w3).alloc _))) ?_;refine aP fun W4 dU BX=> ?_;have Di:ah (a7 [pb] W W4/\dF x pb W4):=⟨HI.1.ext dU,HI.2.ext dU⟩;have bB:ah (I W4):=kE _ Di.1 Di.2;have HPf:=af (HP.keep (.jd dU.ae) (.jd dU.ae));have HNf:=af (HN.ext dU);have HSf:=af (R_.ext dU);have HMf:=af (HMb.ext dU);have yQ:=HN.lt;have vh:=R_.lt;have dE:=HMb.lt;have HC:=af ((ig (S:= [pb]) HX).trans Di.1);clear hK;have aH:=bB;refine ax 15 12 ?_;refine bY Ok ?_;have hwW:w.heap.size<=W.heap.size:=HX.size;go_wp2_with fail
 exact k27):=h
def m28(h:ai:=by
 have HIU:=af (fun(t:aF) (ht:t∈D.tN v cur)=>aN.wk.Yz hv ht);have gX:(D.tN v cur).length<=60:=ade aN.wk.hK;have FW:=af (fun i=>aN.wk.as0 hv HIU cur i);have SI:ah (∀t∈D.tN v cur,D.G (dT D.x.aq.length D.p D.homes v) (60^(nT D.x.aq.length D.p D.homes v - 1)) (D.bT v t cur)):=fun t ht=>aN.wk.ae3 hv (HIU t ht) cur;have nA:=af (fun i (hi:i<60)=>aN.wk.as1 hv a12 hi);have bU:ah (D.vT v cur=D.R.sum (D.tN v cur) fun t=>D.bT v t cur):=aN.wk.step hv cur;have SJ:=af (fun(t:aF) (e:Nat->aF) (h:∀a,bK D.p v a=true->e a=cur a)=>aN.afr (t:=t) hv h);have SE:ah (∀e:Nat->aF,(∀a,bK D.p v a=true->e a=cur a)->D.tN v e=D.tN v cur):=fun e h=>Ua h;have xd:dT D.x.aq.length D.p D.homes v<=40:=(by have h1:=(aN.wk.MK hv).2;have h2:=aN.r6;omega)
 generalize dT D.x.aq.length D.p D.homes v=dg at*;generalize 60^(nT D.x.aq.length D.p D.homes v - 1)=pw at*;have XZ:ah (iE (bJ D.x) (bR D.T) (bV D.x) D.fx (bK D.p v) cur v=D.tN v cur):=rfl;rw[XZ.ae] at oq;generalize D.tN v cur=cb at*;go_wp2_with fail
 refine oq.mono ?_;rintro e9 w9 ⟨Ac,cc,tc,rfl,avr,avq,hcb,aib,Bv⟩;have rD:=af (eZ.tN aN aib Bv);exact k28):=h
def m29(h:ai:=by
 rw[nC.ae] at JN;refine iO 5 Ok ?_;intro o' ho K hK;simp only[fU,eB,dR,dG] at ho;subst ho;refine mr rfl ?_;refine AX _ _ cO rfl nb jy _ _ _ rfl (Vl JN (aK _)) ⟨g,0,none⟩ lf.length c3 (fh (ints lf)) rfl (by unfold fh;rw[cy,Gf.ae,l8]) (arG qx) (fun u hu=>by obtain⟨a,_,rfl⟩:=dH.1 hu;rfl) (show(1+lf.length)*8<=140737488355328 by omega) (qI JN.lt) ?_;intro v7 w7 kR nV _;obtain⟨A7,c7,rfl,_,_,_⟩:=dZ kR;have zB:=af (aq9 kR);have jS:=af (jV iy (Vl JN (aK _)) nV Om);have SQ:=af (ip NU (Vl JN (aK _)) nV Om);refine hK.ae _ _ (fun _=>SQ.aD 0) ?_;clear hK kR nV;have aH:ah (w7.cell? ⟨w.heap.size,0,none⟩=some (.int .i64 first)):=SQ.aD 0;refine ax 6 7 ?_;refine bY Ok ?_;go_wp2_with fail
 go_meet;exact⟨_,_,fn::lf,by rw[cW,oD],zB,C8,HPH,jS⟩):=h
def m30(h:ai:=by
 have mF:∃d:Nat,d<10/\T[i].toNat=48+d:=(by have:=HDG T[i] Ou;unfold lM at this;exact⟨T[i].toNat - 48,by omega,by omega⟩);obtain⟨d,avm,Fy⟩:=mF;have hi':i<(ByteArray.mk T.toArray).size:=hlt;have mF:(((ByteArray.mk T.toArray)[i]'hi').toNat:Int)=48+(d:Int):=by
  show(T[i].toNat:Int)=_
  omega
 have HST:ah (gU 0 ((T.take (i+1)).drop k)=10*gU 0 ((T.take i).drop k)+d):=(by rw[ah,g9 hlt,List.drop_append_of_le_length ay8,UO,Fy];omega);have wV:gU 0 ((T.take i).drop k)<1000000000:=(by have h1:=alw ((T.take i).drop k) 0 (fun c hc=>HDG c (sR (Dz hc)));have h2:10^((T.take i).drop k).length<=10^9:=gM Od (by rw[oB,cP];omega);omega);generalize gU 0 ((T.take i).drop k)=y at*;clear Fy;go_wp2;go_round;exact⟨i+1,by omega,by omega,by go_num,by rw[HST.ae];exact congrArg _ Om⟩;simp [RowKit.intOf];omega):=h
def m31(h:ai:=by
 have wL:=ok.self hv;have a12:D.x.aq.length<=12:=ok.a12;have aN:=af ok;have HB:=af hB;have hia:=ok.ring.ia;have HST:=af h;have hvN:v<D.x.aq.length:=hv;obtain⟨_,kb',_,_,_,_,k2,_,_,_,sM,_,_⟩:=ok.pl;obtain⟨Ak,dk,nu,Sv,_⟩:=PL sM (ok.ks v hv);have F_:ah (∀a∈D.key v,(0:UInt8)∉cur a/\cur a∈D.U):=fun a ha=>by have h1:=xg a (ok.ka v hv a ha).1;exact⟨(ok.u0 _ h1).1,h1⟩
 have Dh:ah (∀a∈D.key v,a<D.x.aq.length/\(cur a).length<=1000):=fun a ha=>⟨(ok.ka v hv a ha).2,(ok.u0 _ (xg a (ok.ka v hv a ha).1)).2⟩;have dE:=ok.kl v hv;have xE:ah (∀k,(UInt8.ofNat v::kO (((D.key v).take k).map cur)).length<=5006):=fun k=>by
  have h1:=ad3 (l:=((D.key v).take k).map cur) fun t ht=>by obtain⟨a,ha,rfl⟩:=dH.1 ht;exact(Dh a (sR ha)).2
  rw[cy,cP] at h1;rw[cW];omega
 have HNM:ah (UInt8.ofNat v::kO (((D.key v).take (D.key v).length).map cur)=nL v (D.key v) cur):=by rw[ah,f9];rfl
 have tR:IntKind.u8.wrap (v:Int)=(v:Int):=by rw[IntKind.wrap_u8];omega
 have yC:=(bE Sv).2;have JC:=af xg;exact k31):=h
def m32(h:ai:=by
 have gK:ah (ar w3 w.heap.size bD [.bool false,.slice none 0 0]):=(hg3.block w.heap.size jT.lt (fun h=>by have:=(HOW.lt _ h.symm).1;omega)).trans jT.ae;have bZ:ah (Ext w w3):=vX bW hg3 bW.size (fun k hk=>by have:=(HOW.lt k hk).1;omega);have gL:ah (w3.ownsRow (w.heap.size+1+1) tI 1 (.slice A3 (r.length+1) c3) (r++ [0]).length (dW (r++ [0]))):=(by rw[ah,bC,Hq];exact eX)
 obtain⟨k0,k1⟩:=g7.two;have f1:=g7.frozen 1;have nG:=af (g7.bu 1 (.slice A3 (r.length+1) c3));clear eX hg3 hb3;go_wp2;go_roundw
 ·refine⟨y,r++ [0],A3,c3,?_,by omega,HST,by have:=HST.2.2.2.1;exact this,?_,?_,gK.far (p:=aB (w.heap.size+1) 1) (u_ _) _,bZ.setCell (p:=aB (w.heap.size+1) 1) (l9 _) _⟩
  ·first|rfl|exact congrArg _ Om
  ·rw[bC] at*;exact VN gL azv _
  ·rw[bC] at*;exact nG
 simp [RowKit.intOf];omega):=h
def m33(h:ai:=by
 obtain⟨k,rfl⟩:∃k,m=k+1:=⟨m - 1,by omega⟩;have dE:k<l.length:=aAv;have qo:ah (Ext w wr):=sZ HX (bW.mono (l9 _));have hsz:w.heap.size+1<=wr.heap.size:=azS;have qp:=af hsz;clear hsz;obtain⟨g,o,rfl,_,hcell⟩:=(HS.ext qo).at_ (mg dE);have pX:l[k]<B9:=HC.1.getElem dE;have M5:=af (ak3 dE);rw[uj.ae] at M5;generalize l[k]=x at*;have ah2:x<18446744073709551616:=by unfold B9 at pX;omega
 have Fi:=EI pX;go_wp2_with fail;refine(arf x ah2 wr (HT.ext qo)).mono ?_;rintro e w2 ⟨rfl,hx2⟩;have aY:ah (Below (w.heap.size+1) W w2):=bW.trans (hx2.mono qp);have eE:=af (ae5 nH hx2);have yz:w.heap.size+1<=w2.heap.size:=a8 qp hx2.size;have Qx:=af yz;have avy:ay w2 w.heap.size 1 (aG g o n c):=(aY.cell (p:=aB w.heap.size 1) ay9).trans (BX.aD 1);have hlen:(ByteArray.mk (decDigits x).toArray).size=nDigits x:=by rw[<-decDigits_length];simp [ByteArray.size]
 have HL9:=af Fi.2;have hn9:=Fi.1;clear Fi hx2 lU yz hcell ah2 pX;exact k33):=h
def m34(h:ai:=by
 obtain⟨W9,Cm,ed,ke⟩:=jG.EG aN hv false;rw[U7,Vn wL] at ed;have hcs:=(jG.st.sc.cell (rP (on:=cV (bK D.p v) v) hv));have p_:=jG.st.sc.frozen v;have hst:=jG.st.st;have iJ:=af (Dm.only ke (.inl Ou));have HB9:=af (xy.far ke Om (jG.Wx ke));have rF:=af (BZf.only ke Om);have Do:ah (∀a,bK D.p v a=true->cu a=cur a):=fun a ha=>by rw[HA.ae a (by unfold cV;rw[ha,TW])];unfold put;rw[if_neg fun e=>by rw[e,wL] at ha;cases ha]
 clear jG xy Dm ke HA BZf;obtain⟨o0,O0,o1,o2,p0,P0,p1,p2,BO,VO⟩:=HB9.parts;obtain⟨q0,q1,q2,q3⟩:=BO.four;obtain⟨f0,f1,f2,f3⟩:=rF.fO;obtain⟨j0,j1,j2,j3⟩:=rF.four;go_wp2_with fail;exact uK rfl rfl rfl rF.ae VO (fun u W' h1 h2=>⟨u,cu,rfl,by rw[hF];exact h1,ed.past aN h2 rF Od Om Om Om Om Om,Do,iJ.only h2 (.inr (aK _))⟩)):=h
def m35(h:ai:=by
 obtain⟨A,c,B,d,Dd,e,rfl,ha,h_,hf⟩:=h;obtain⟨-,ha1,ha2⟩:=bE ha;obtain⟨-,iY,kB⟩:=bE h_;obtain⟨wX,aie,aiy⟩:=bE hl;subst wX;have HA:=af ha;have HR:=af h_;have HL:=af hl;have HT:=af ht;have aN:=af ok;have gV:i<x.aA.length:=by
  rcases cA i x.aA.length with h|h
  ·exact h
  ·rw[fH h] at hr;cases hr
 have lx:x.aA[i]=r:=azW;have n_:=af lx;obtain⟨rn,cs⟩:=r;have gX:cs.length<=12:=by
  have hm:=aZ gV;rw[lx] at hm;rcases Ib (k:=0) (n:=x.aq.length) (ok.ra _ hm) (ok.ri _ hm) with h1|h1
  ·simp only at h1;rw[h1];simp
  ·have:=ok.a12;simp only at h1;omega
 have fZ:ah (∀a∈cs,0<=a/\a<x.aq.length):=(by have hm:=aZ gV;rw[lx] at hm;exact ok.ri _ hm);simp only at HT;have hlen:=ht.len;have r6:=ok.r6;obtain⟨RN,rz⟩:∃RN,x.aA.length=RN:=⟨_,rfl⟩;have j9:=af rz;have Y':i<RN:=Om;rw[rz] at iY HR r6 CH HV⊢;obtain⟨AN,Jb⟩:∃AN,x.aq.length=AN:=⟨_,rfl⟩;have vJ:=af Jb;rw[Jb] at ha1 HA CH HV fZ⊢;exact k35):=h
def m36(h:ai:=by
 obtain⟨gl,ol,hA,gX⟩:=nK Sv Cg (HST.fW aN bW).k2;subst hA;have bB:=af (HST.fW aN bW);obtain⟨hka,nu⟩:=Dh _ (aZ Cg);have e3:=gX;have e4:=bB.st.nw;have e5:=bB.st.nc.cell (O8 (cur:=cur) hka);have HNS:ah (UInt8.ofNat v::kO ((kl.take (k+1)).map cur)=(UInt8.ofNat v::kO ((kl.take k).map cur))++(cur kl[k]++ [0])):=(by rw[ah,g9 Cg,mL,Oh,anM,uC])
 have yQ:=xE k;generalize UInt8.ofNat v::kO ((kl.take k).map cur)=nm at*;generalize kl[k]=a at*;generalize cur a=t at*;have avt:∀w,(Op.stringOp .add ⟨t.toArray⟩ ⟨#[0]⟩).run prog w= .ok (aO (t++ [0])) w:=fun w=>KU t [0] w (by rw[iM];omega);have hsz:w.heap.size<=wr.heap.size:=bW.size;have CW:=af (aoi w.heap.size w.heap.size (byteCells nm) ⟨(t++ [0]).toArray⟩ wr nH (by rw[byteCells_length];simp [ByteArray.size];omega) hsz);have awj:ah (byteCells (UInt8.ofNat v::kO ((kl.take (k+1)).map cur))=byteCells nm++strCells ⟨(t++ [0]).toArray⟩):=by rw[ah,HNS.ae,byteCells_append];rfl
 exact k36):=h
def m37(h:ai:=by
 have c10:=aY.st.sx.cell ok.cl;have HHB:=af fun(h:Nat) (hh:h∈D.homes v)=>ok.wk.home hv ht hh;obtain⟨cb,_,hb,_,_,k1,_,k3,_,HLC,_,HLH,_⟩:=ok.pl;obtain⟨Ah,dh,hhc,d_,_⟩:=PL HLH (ok.hs v hv);obtain⟨Ac,dc,hcc,HIC,_⟩:=PL HLC (ok.ch v hv);have aiz:=af (aoq (v:=v) (P:=fun z=>z∈D.U) YJ xg);have JE:ah (D.bT v t cur=D.R.mul (D.R.mul (D.g v t) (D.R.prod (D.homes v) fun h=>hW D.R D.x D.T D.wt h (put cur v t))) (D.R.prod (kids D.dL D.p (some v)) fun c=>D.vT c (put cur v t))):=rfl;have HG:=af (ok.wk.afn hv YJ (put cur v t));have Dj:=af (ok.wk.asA hv YJ (put cur v t) ok.a12 ok.r6);have Nt:=af (fun(c:Nat) (hc:c∈kids D.dL D.p (some v))=>iC.1 hc);have Fk:(D.homes v).length<=18:=(by have h1:=(ok.wk.Lj (v:=v) 0).1;have h2:=(ok.wk.MK hv).2;have h3:=ok.r6;have h4:=ok.a12;have:D.dL=D.x.aq.length:=rfl;omega)
 obtain⟨At,ct,tS,zm⟩:=h.st.qh.tb;have dX:=h.st.qh.jl;obtain⟨-,ht2,ht3⟩:=bE zm;have RB:=h.st.qh.ok.len;have lV:=af h.st.qh.ok.ra;have Qy:=af h.st.qh.ok.rl;have hlc:=(bE d_).2;have hlk:=(bE HIC).2;exact k37):=h
def m38(h:ai:=by
 rcases Tk a[k] b[k] with h|h|h
 ·have HV:ah (ew (val a) (val b)= -1):=Er (aaZ CA.1 HL k hk h HD);go_wp2;go_quiet (fail);go_wp2;rw[HV.ae];go_ret;exact⟨rfl,Ll _ _ _⟩
 ·have HE:=af h;have h1:¬a[k]<b[k]:=Om;have h2:¬b[k]<a[k]:=Om;clear h;go_wp2;go_quiet (fail);go_wp2;go_quiet (fail);go_wp2;go_roundw
  ·refine⟨(k:Int) - 1,by go_num,by omega,by omega,?_,_,rfl⟩;have e1:((k:Int) - 1+1).toNat=k:=Om;have e2:((k:Int)+1).toNat=k+1:=Om;have:=HD.ae;rw[e2] at this;rw[e1,i6 hk,i6 Ci,this,HE.ae]
  simp [intOf]
 ·have HV:ah (ew (val a) (val b)=1):=PR (aaZ CB.1 HL.symm k Ci h HD.symm);have h1:¬a[k]<b[k]:=Om;go_wp2;go_quiet (fail);go_wp2;go_quiet (fail);go_wp2;rw[HV.ae];go_ret;exact⟨rfl,WG _ _ _ _⟩):=h
def E6(h:ai:=by
 go_upto_region 1 with fail
 refine aP fun W HX BX=> ?_;have SN:=af (CH W HX);obtain⟨s0,s1,s2,s3⟩:=BX.four;go_wp2_with fail
 refine SN.mono ?_;rintro e1 w1 ⟨rfl,hx1⟩;exact yJ):=h
def m40(h:ai:=by have lG:=af (js.ext bh);have bZ:=af (aY.trans bh);have zn:=af (cQ kW bh);have F6:=af (C7.ext bh);have gK:=af (jM f4 bh);have iK:ah (Ch (jh W3.drew) xs o):=lg (fun c x hc=>uL _ _ _ _ (fun _ _=>rL bh) hc) fR;have bL:ah (∀w',Ext W3.drew w'->w'.cell? ⟨bx,0,none⟩=some (.bool x1)/\w'.cell? ⟨bx,1,none⟩=some (.slice X2 x3 x4)/\w'.cell? ⟨bx,2,none⟩=some (.bool y1)/\w'.cell? ⟨bx,3,none⟩=some (.slice Y2 y3 y4)):=fun w' hx=>(lG.ext hx).four;have aH:ah (Ext W3.drew W3.drew):=aC _;have L3:w0.heap.size<=W3.drew.heap.size:=bZ.size;refine b9 (S:=fun w'=>Ext W3.drew w') (T:=fun j=>decide (11<=j)) Ok ?_;generalize W3.drew=wd at*;have nu:k<=co:=Om;refine ax 0 48 ?_;refine ax 1 49 ?_;refine ax 2 50 ?_;refine ax 3 51 ?_;refine ax 4 52 ?_;refine ax 5 53 ?_;refine ax 7 55 ?_;refine ax 8 56 ?_;exact k40):=h
def m41(h:ai:=by have bh:ah (Ext W2 (W2.drewN nq).drew):=((aC W2).drewN nq).drew;generalize hW3:W2.drewN nq=W3 at*;clear hW3;have gL:=af (et.ext fL bh);have lG:=af (js.ext bh);have bZ:=af (aY.trans bh);have zn:=af (cQ kW bh);have gK:=af (jM f4 bh);have iK:ah (Ch (eh W3.drew) xs o):=lg (fun c x hc=>fL _ _ _ _ (fun _ _=>rL bh) hc) fR;have bL:ah (∀w',Ext W3.drew w'->ay w' bx 0 (.slice Bi xv.length di)/\ay w' bx 1 (av xw)):=fun w' hx=>(lG.ext hx).two;have aH:ah (Ext W3.drew W3.drew):=aC _;have L3:w.heap.size<=W3.drew.heap.size:=bZ.size;refine b9 (S:=fun w'=>Ext W3.drew w') (T:=fun j=>decide (9<=j)) Ok ?_;generalize W3.drew=wd at*;have nu:k<=co:=Om;refine ax 0 56 ?_;refine ax 1 57 ?_;refine ax 2 58 ?_;refine ax 3 59 ?_;refine ax 5 61 ?_;refine ax 6 62 ?_;exact k41):=h
def m42(h:ai:=by obtain⟨j,hj,hjs⟩:=Option.map_eq_some_iff.1 Tryz.DG.sizeBuilder;go_enter func229,ntmps229;go_wp2;rw[Lib.run_to_unsafe w ⟨b,0,none⟩ underlying241 underlying317 hj (by rw[hjs];decide) YK (Nat.zero_lt_succ 1)];simp only[Result.andThen];rw[aaM];go_wp2;rw[run_callFunc_extern func266 Ok Ok Ok Ok];rw[Lib.run_noEscape];simp only[Result.andThen];rw[aaM];go_wp2;rw[Lib.run_from_unsafe w ⟨b,0,none⟩ underlying317 underlying241 hj YK Tryz.DG.liesBuilder];simp only[Result.andThen];rw[aaM];go_wp2;go_end0;exact⟨rfl,rfl⟩):=h
def m43(h:ai:=by
 obtain⟨W9,Cm,ed,ke⟩:=jG.EG aN hv false;rw[U7,Vn wL] at ed;have hcs:=(jG.st.sc.cell (rP (on:=cV (bK D.p v) v) hv));have p_:=jG.st.sc.frozen v;have hst:=jG.st.st;have zk:=af (aN.ring.vk xy (jG.Wx ke));have iJ:=af (Dm.only ke (.inl Ou));have Do:ah (∀a,bK D.p v a=true->cu a=cur a):=fun a ha=>by rw[HA.ae a (by unfold cV;rw[ha,TW])];unfold put;rw[if_neg fun e=>by rw[e,wL] at ha;cases ha]
 go_wp2_with fail
 exact bodyPost_ret (v:=u) (by simp [results,results207,go_sem]) rfl (by first|exact⟨u,rfl,zk,cu,ed,Do,iJ⟩|exact⟨u,cu,rfl,zk,ed,Do,iJ⟩)):=h
def QM(h:ai:=by
 have zH:ah (∀k,k<j+1->P k=false):=fun k hk=>by
  rcases cA k j with h|h
  ·exact HB k h
  ·rw[show k=j by omega];exact hp
 go_wp2;go_roundw;exact⟨j+1,by omega,by go_num,oh,zH⟩;simp [RowKit.intOf];omega):=h
def m45(h:ai:=by
 go_enter func159,ntmps159;go_upto_region 1 with fail
 refine fX fun W HX HB HR=> ?_;obtain⟨k0,k1⟩:=HB.two;have f0:=HB.frozen 0;have eE:=af (HB.bu 0 (.bool false));have f4:=af (HR.far (p:=aB w.heap.size 0) (fM (u_ _)) (.bool false));have aY:=af (HX.setCell (p:=aB w.heap.size 0) (aK _) (.bool false));obtain⟨b0,b1⟩:=eE.two;obtain⟨r0,r1⟩:=f4.two;have ZG:=f4.frozen 0;have ZF:=f4.frozen 1;have HV:=af (HN false _ HD rfl _ (HS.ext aY));go_wp2;exact ww rfl rfl rfl f4.ae HV aY (l9 _) (fun v W' h1 h2=>⟨v,rfl,h1,h2⟩)):=h
def m46(h:ai:=by
 have hrp:(9:Int) - (nDigits x:Int)=((9 - nDigits x:Nat):Int):=Om;go_wp2_with fail;refine(Tryz.strings_Repeat ⟨#[48]⟩ (9 - nDigits x) w2 Om (by simp [ByteArray.size];omega)).mono ?_;rintro e w3 ⟨rfl,hx3⟩;have bZ:ah (Below (w.heap.size+1) W w3):=aY.trans (hx3.mono Qx);have g7:=af (ae5 eE hx3);have ai3:ah (w.heap.size+1<=w3.heap.size):=a8 Qx hx3.size;have h_:(ByteArray.mk (repeatL [48] (9 - nDigits x)).toArray).size=9 - nDigits x:=by rw[TF];simp [ByteArray.size]
 clear hx3;go_wp2_with fail;refine(GM (w.heap.size+1) (w.heap.size+1) _ ⟨(repeatL [48] (9 - nDigits x)).toArray⟩ w3 g7 (by rw[h_];have:=JF.ae;omega) ai3).mono ?_;rintro e w4 ⟨rfl,hb4,iW⟩;have dU:=af (bZ.trans iW);have ai2:ah (w.heap.size+1<=w4.heap.size):=a8 ai3 iW.size;exact k46):=h
def m47(h:ai:=by
 have HE:=af (bZ.trans iZ);obtain⟨gl,ol,Bk,dk,hA0,j8,dD,eH,rC⟩:=yf (yg HL HE) dE;have Nh:ah (∀w',Ext w w'->∀q (hq:q<l.length),∃Bq dq,gl<w'.heap.size/\ay w' gl (ol+q*2) (.slice Bq l[q].1.length dq)/\ah (TL w' (.slice Bq l[q].1.length dq) l[q].1)):=fun w' hx q hq=>by obtain⟨g',o',Bq,dq,e',w_,h1,_,h2⟩:=yf (yg HL hx) hq;rw[hA0] at e';injection e' with e';injection e' with e1 e2;subst e1 e2;exact⟨Bq,dq,w_,h1,h2⟩
 subst hA0;have Cx:=af (HT.val _ (aZ dE));obtain⟨ve,hw2⟩:=HT.wt _ (aZ dE);have Sm:ah (∀q (hq:q+1<l.length),eA l[q].1 l[q+1].1=true):=fun q hq=>HT.lt hq;obtain⟨y,hy⟩:∃y,y=l[k]:=⟨_,rfl⟩;have HY:=af hy;rw[<-hy] at dD eH rC Cx ve hw2;exact k47):=h
def ID(h:ai:=by simp only[fU,eB,dR,dG] at ho;subst ho;simp only[fA];go_simp;have kY:=HK.ae;simp only[fA,Act.put,dN,dB,dO] at kY;exact IG):=h
def m49(h:ai:=by
 obtain⟨hst,ha2⟩:=als HO (aav h0) HZ;have HST:=af hst;clear hst;have hlt:a/B9<a:=Nat.div_lt_self (aav h0) Od;have hmB:a%B9<1000000000:=fg _ Od;have kA:(a:Int)%1000000000=((a%B9:Nat):Int):=ay1;have nt:(a:Int)/1000000000=((a/B9:Nat):Int):=ay1;have IX:(-(a:Int)).tmod 1000000000= -((a%B9:Nat):Int):=by rw[Int.neg_tmod,Int.tmod_eq_emod_of_nonneg Om,kA]
 have hm4:(-(a:Int)).tdiv 1000000000= -((a/B9:Nat):Int):=by rw[Int.neg_tdiv,Int.tdiv_eq_ediv_of_nonneg Om,nt]
 have ayS:((a:Int) !=0)=true:=by simpa using h0
 have axA:((-(a:Int)) !=0)=true:=by simpa using h0
 generalize a%B9=x at*;generalize a/B9=y at*;exact k49):=h
def m50(h:ai:=by
 clear b0 b1;obtain⟨wo,nR⟩:∃wo:World,wo=w4:=⟨_,rfl⟩;have R6:ah (Ext wo w4):=by rw[nR];exact aC _
 have JO:ah (ar wo (w.heap.size+1) bD [.bool E5,aG gY oY (n0+1) cb]):=by rw[nR];exact JO
 have Nn:ah (qZ wo (w.heap.size+1+1+1+1+1) (aG gR oR n2 c1) R1):=by rw[nR];exact Nn
 have vF:ah (iU wo (aG gR oR n2 c1) R1):=by rw[nR];exact vF
 have EX:ah (ar wo (w.heap.size+1+1+1+1) tI (dW (List.replicate (k+1) 0++q))):=by rw[nR];exact EX
 have LM:ah (Below (w.heap.size+1+1+1+1) W wo):=by rw[nR];exact LM
 have Iz:ah (iU wo (aG gY oY (n0+1) cb) Y):=by rw[nR];exact Iz
 have auW:w.heap.size+1+1+1+1+1<=wo.heap.size:=by have:=EX.lt;omega
 clear nR;exact k50):=h
def m51(h:ai:=by have Ju:=af (nB.push (y:=(yk,yw)) xB nD ⟨By,dy,rfl,CJ⟩ kR nV Fw);have pg:=af ((CJ.yl (jW xB nV Od)).yl (I0 _ Od));have Gx:ah (ar w7 bx dJ [.slice By yk.length dy,av yw]):=(nV.block bx lF.lt (fun e=>Nat.lt_irrefl _ (pY bx e.symm))).trans lF.ae;have JM:=af (Gx.only mC (by have:=nB.b1;omega));simp only[Act.put,dN,dB,dO];refine hK.ae _ _ (fun _=>zr _ wU Gx) ?_;clear hK kR nV Fw I0 mC BZ;refine aL 9 ?_;intro K hK;go_simp;refine hK.ae _ _ (fun _=>zr _ wU Gx) ?_;clear hK;refine aL 10 ?_;intro K hK;go_simp;refine hK.ae _ _ Oe ?_;clear hK wU Rt;refine bY Ok ?_;exact k51):=h
def m52(h:ai:=by intro K hK;go_simp;refine CM.mono ?_;rintro e6 w6 ⟨u6,rfl,su,iq⟩;obtain⟨r0,R0,r1,r2,s0,S0,s1,s2,rfl,_,_⟩:=su.parts;have cY:=af (en.fW aN iq);have nD:=af (qw.ext iq);have vN:=af (xL.ext iq);have rG:=af (xJ.ext iq);have aH:ah (ar w6 D.xb D.tX D.cs/\ar w6 ob dI [.bool o0,.slice O0 o1 o2,.bool p0,.slice P0 p1 p2]):=⟨cY.st.sx,vN⟩;refine hK.ae _ _ (fun _=>aH.ae) ?_;obtain⟨k0,k1,k2,k3⟩:=vN.four;obtain⟨f0,f1,f2,f3⟩:=vN.fO;obtain⟨W',jp,Dn,_,_,kX⟩:=ep.put vN su cY.st.ex Om;have HW:=af jp;have rB:=af (cY.past aN kX vN Od Om Om Om Om Om);exact k52):=h
def m53(h:ai:=by
 obtain⟨gl,ol,hA,gX⟩:=nK d_ dE HX.k2;subst hA;obtain⟨s1,j1,s2,j2,m1,m2,m3,m4,m5⟩:=HGM k dE;have vH:=af m4;have ui:=af m5;have fp:ah (D.R.prod (rl.take (k+1)) (fun c=>D.vT c fun _=> [])=D.R.mul (D.R.prod (rl.take k) fun c=>D.vT c fun _=> []) (D.vT rl[k] fun _=> [])):=by rw[ah,g9 dE,SR.acF]
 obtain⟨lT,jk⟩:=Nt _ (aZ dE);have My:bK D.p rl[k]=fun _=>false:=funext fun a=>KL jk;have vJ:=af My;have Jm:=af (HV _ lT);have Cz:ah (∀cu,D.vT rl[k] cu=D.vT rl[k] fun _=> []):=fun cu=>aN.kv _ lT _ _ fun a ha=>by have h1:=(aN.ka _ lT a ha).1;rw[My] at h1;cases h1
 have e3:=gX;exact k53):=h
def m54(h:ai:=by
 go_roundw
 ·refine⟨T.take k,m',r++ [x],A3,c3,rfl,Sc,by rw[cP,bC,iM];have:=HK.ae;omega,by rw[bC,iM];omega,?_,?_,gK.far (p:=aB (w.heap.size+1) 1) (u_ _) _,bZ.setCell (p:=aB (w.heap.size+1) 1) (l9 _) _⟩
  ·rw[bC] at*;exact VN gL azv _
  ·rw[bC] at*;exact nG
 simp [Wi,ByteArray.size];have:=HK.ae;omega):=h
def Yu(h:ai:=by refine bodyPost_ret (v:= .bool false) (by simp [results,results31,go_sem]) rfl ?_;first|exact⟨false,rfl,fun h:false=true=>by cases h,nY⟩|exact .inl ⟨rfl,nY⟩|exact .inr ⟨rfl,(fun h:false=true=>by cases h) rfl,nY⟩):=h
def m56(h:ai:=by
 obtain⟨gr,og,Bk,dk,kT,hgr,mE,tV,nZ⟩:=yf Jy dX;subst kT;have dD:=(HX.st.ex.cell (p:=aB gr (og+j*2)) hgr).trans mE;have eH:=(HX.st.ex.cell (p:=aB gr (og+j*2+1)) hgr).trans tV;have JG:=af (aqf (q:=q) dX);have kX:=af (fun h=>aeK HF dX h);have FJ:=af (FK _ (aZ dX));have Z6:=af (Sc _ (aZ dX));have Na:=af (HQ rows[j]);clear mE tV;generalize rows[j]=yy at*;obtain⟨yv,yw⟩:=yy;simp only at dD eH nZ FJ Z6 Na;go_upto_region 9 with fail
 refine aP fun W6 cY BY=> ?_;have iy:=af (HX.fW aN cY);have NG:=af (HC.ext cY);exact k56):=h
def m57(h:ai:=by
 go_loop [4] (fun v4=>∃k:Nat,k<=S.size/\v4= .int .i64 k) (fun v4=>S.size - (RowKit.intOf v4).toNat)
 exact⟨0,aT _,rfl⟩;obtain⟨k,hk,rfl⟩:=hrel;by_cases hlt:k<S.size
 ·have xd:=ajd k hlt;have hx1:¬(S[k].toNat:Int)<48:=Om;have hx2:¬(57:Int)<S[k].toNat:=Om;clear xd;go_wp2;go_round;exact⟨k+1,by omega,by go_num⟩;simp [RowKit.intOf];omega
 ·go_wp2;go_ret;exact⟨rfl,rfl⟩):=h
def m58(h:ai:=by have ayu:=et.frozenAt (k+1);have Fk:=CA.1.getD (k+1);unfold B9 at Fk;have gL:=af (et.stored (k+1) (.int .i64 ((limb a (k+1):Int) - 1))).1;rw[ajx hr1 lS] at gL;generalize limb a (k+1)=y1 at*;have qy:=af kT;have zg:=af Fx;clear hA kT yV RG;go_wp2;go_roundw;exact⟨k+1,1,r++ [T],by omega,by go_num,aK _,by omega,hr1,HD.snoc I_,qy,gL,(bW.setCell (p:=aB g k) hgb _).setCell (p:=aB g (k+1)) hgb _⟩;simp [RowKit.intOf];omega):=h
def m59(h:ai:=by
 go_wp2_with (at_builtin;refine gG rfl _ _ rW rfl w5.heap.size str_slice _ _ _ rfl lC.ae _ 1 1 rfl rfl rfl cK hz9 ?_)
 intro v' IA tJ ni _;obtain⟨N0,c10,rfl,_,_,_⟩:=dZ tJ;have ub:=af (iN (R:=jq) jY Oe lC xH rfl tJ ni);have Je:=af (jV H59 lC ni (aK _));clear tJ ni;go_wp2;go_roundw;exact⟨j+1,by omega,by go_num,by rw[Qz.ae];exact ub,Je⟩;simp [RowKit.intOf];omega):=h
def m60(h:ai:=by
 go_upto_region 1 with fail
 refine fX fun W HX BX BF=> ?_;have hbf:=BF.lt;obtain⟨s0,s1,s2,s3⟩:=BX.four;have f0:=BF.aD 0;have p1:=(HX.cell (p:=aB g (o+fa*2)) hg).trans q1;have p2:=(HX.cell (p:=aB g (o+fa*2+1)) hg).trans q2;go_upto_region 2 with fail
 refine aP fun W2 aY BA=> ?_;have BF2:=af (BF.ext aY);have nY:=af (HX.trans aY);generalize W.heap.size=ab at*;generalize w.heap.size+1=fb at*;have a0:=BA.aD 0;have a1:=BA.aD 1;have f1:=BF2.aD 1;have f2:=BF2.aD 2;exact k60):=h
def m61(h:ai:=by clear hf iY YV rx kB Ms h1 IY yS;go_enter func45,ntmps45;go_wp2_with fail;refine aP (P:=fun W=>Calls _ _ _ W _) fun W HX HB=> ?_;refine(GN _ W (H.ext HX)).mono ?_;rintro e w1 ⟨rfl,hx1⟩;obtain⟨k0,k1,k2,k3⟩:=(HB.ext hx1).four;go_wp2_with fail;refine(GD _ w1 (H'.ext (HX.trans hx1))).mono ?_;rintro e w2 ⟨rfl,hx2⟩;go_wp2;go_ret2;exact⟨rfl,HX.trans (hx1.trans hx2)⟩):=h
def m62(h:ai:=by
 have h2:=Up hc 4 j h1 (fun o' Ra e he hb=>by rw[ho] at Ra;injection Ra with Ra;subst Ra;exact hall e he hb);rcases cA i listed.size with hl|hl
 ·simp [hl] at hu h2;rw[hu] at h2;cases h2
 ·simp [zS hl] at h2):=h
def m63(h:ai:=by
 go_roundw
 ·refine⟨y,r++ [x],A3,c3,?_,by omega,HST,by have:=HST.2.2.2.1;exact this,?_,?_,gK.far (p:=aB (w.heap.size+1) 1) (u_ _) _,bZ.setCell (p:=aB (w.heap.size+1) 1) (l9 _) _⟩
  ·first|rfl|exact congrArg _ Om
  ·rw[bC] at*;exact VN gL azv _
  ·rw[bC] at*;exact nG
 simp [RowKit.intOf];omega):=h
def m64(h:ai:=by
 have h:=VI (g:=fun v x=>if dt fx v x=true then lift v x else 0) (W:=oT at_ tab) (a:=a) (B:=B) (M:=M) hK (fun t=>by
  show dQ B M (if dt fx a t=true then lift a t else 0)
  split
  ·exact ha t
  ·exact KN _ _) (fun v t hv=>by
  show dQ 1 1 (if dt fx v t=true then lift v t else 0)
  split
  ·exact hb v t hv
  ·exact KN _ _) (fun h e=>by
  show dQ 1 c (dS gm at_ tab (fun w=>(w:Rat)) h e)
  unfold dS;split
  ·rename_i y hy;refine⟨y.2,?_,hW h y (Um hy).1⟩;rw[show((1:Nat):Int)=1 from rfl,show((1:Int):Rat)=1 from rfl,Ud]
  ·exact KN _ _) f env
 exact k64):=h
def m65(h:ai:=by have bZ:=af (HX.trans (hx1.trans (hx2.trans hx3)));have gK:=af (HR.ext (hx1.trans (hx2.trans hx3)));have HF:ah (b_ w3 (.agg #[.bool b2,.slice A2 n2 c2,.bool b3,.slice A3 n3 c3]) q):= .mk' (pd.ext hx3) (by rw[H1.ae];exact MX);obtain⟨k0,k1,k2,k3⟩:=gK.four;obtain⟨f0,f1,f2,f3⟩:=gK.fO;clear hx1 hx2 hx3 hv2 hv3;go_wp2;exact AP rfl rfl rfl gK.ae HF bZ (aK _) (fun v W' h1 h2=>⟨v,rfl,h1,h2⟩)):=h
def Yt(h:ai:=by go_enter func275,ntmps275;go_wp2_with fail;refine H1.mono ?_;rintro e w1 ⟨rfl,rfl⟩;go_wp2_with fail;refine H2.mono ?_;rintro e w1 ⟨rfl,rfl⟩;go_wp2;go_ret;exact⟨by rw[HC.ae];rfl,rfl⟩):=h
def m67(h:ai:=by
 have Ma:t/B9<1000000000:=ay1;have YH:t%B9<1000000000:=fg _ Od;have om:=af (HD.snoc (x:=t%B9) (fg _ Od));generalize t%B9=p at*;generalize t/B9=q at*;go_wp2_with (at_builtin;refine gG rfl _ _ rh rfl w.heap.size jy _ _ _ rfl HO.ae #[av (p:Int)] 1 1 rfl rfl rfl Om HX.size ?_)
 intro v' w3 eX hg3 _;have bZ:ah (Ext w w3):=vX HX hg3 HX.size (fun k hk=>(HO.lt k hk).1);have gL:ah (w3.ownsRow w.heap.size tI 1 v' (k+1) (dW (r++ [p]))):=by rw[ah,Hq];exact eX
 clear eX hg3 dD;go_wp2;exact k67):=h
def m68(h:ai:=by
 go_upto_region 1 with fail
 refine aP fun W HX BR=> ?_;have hbr:=BR.lt;have j0:=(HJ.ext HX).aD 0;go_upto_region 2 with fail
 clear j0;have HMW:=af (HM.ext HX);have HBW:=af (JA.ext HX);have BRd:=af BR.drew;obtain⟨I,Ja⟩:∃I:World->Prop,I=fun w'=>a7 [pb] W w'/\dF x pb w':=⟨_,rfl⟩;have ul:ah (∀w',I w'->a7 [pb] W w'/\dF x pb w'):=az0;have kE:ah (∀w',a7 [pb] W w'->dF x pb w'->I w'):=by rw[ah,Ja];exact fun _ h1 h2=>⟨h1,h2⟩
 exact k68):=h
def m69(h:ai:=by
 go_wp2_with fail
 refine C.mono ?_;rintro e w2 ⟨u,rfl,hu,hx⟩;obtain⟨a0,A0,a1,a2,b0,B0,b1,b2,rfl, -, -⟩:=hu.parts;have HU:=af hu;have aY:=af (HX.trans hx);have zO:=af (BT.ext hx);obtain⟨k0,k1,k2,k3⟩:=zO.four;obtain⟨f0,f1,f2,f3⟩:=zO.fO;go_wp2_with fail
 refine uK rfl rfl rfl zO.ae HU fun v W' g1 g2=>⟨v,rfl,?_,aY.only g2 Om⟩;simpa using g1):=h
def m70(h:ai:=by
 go_wp2_with fail
 refine CV.mono ?_;rintro e7 w7 ⟨t,ht,rfl,yO,kR⟩;have HT:=af ht;have NJ:=af (qx.only kR Om);have k1:=NJ.aD 1;have k2:=NJ.aD 2;have f2:=NJ.frozen 2;have Y1:=NJ.lt;obtain⟨W8,Zo,B8,K8,N8⟩:=gp (i:=2) NJ (aO t);have eZ:=af (yO.past N8 Om);have MS:=af ((jF.trans kR).fresh N8 Mq);have xK:=af ((qA.only kR hbg.2).only N8.ae Om);clear ht yO kR c0 c1 s0 s1 s2 s3 f1 K8 N8;go_upto_region 8 with fail
 clear k1 k2 f2;have k1:=B8.aD 1;exact k70):=h
def m71(h:ai:=by rw[po.ae] at CP;have hso:=jF.size;refine CP.mono ?_;rintro e6 w7 ⟨q,rfl,hq,YP,iq⟩;obtain⟨dd,hdd⟩:=afh aN po iA mI;have HQ:=af hq;have lW:=af hdd;clear hq hdd;generalize(jE (jg x.aA) (iG m) m fun _=>none)=pp at*;have hqW:W.heap.size<=q:=Om;have za:=af (jF.trans (ei iq));have qq:=af (qr.ext iq);refine hK.ae _ _ (fun _=>kE _ za qq) ?_;clear hK;have aH:=af (kE _ za qq);refine ax 7 7 ?_;refine ax 8 15 ?_;refine ax 9 16 ?_;have HB:=af (HB.ext iq);exact k71):=h
def IC(h:ai:=by go_roundw;exact⟨i+1,by omega,by go_num,iZ⟩;simp [RowKit.intOf];omega):=h
def m73(h:ai:=by
 go_wp2_with fail
 refine(V1 w).mono ?_;rintro e w1 ⟨rfl,hx1⟩;go_wp2_with fail;refine(V2 w1).mono ?_;rintro e w2 ⟨rfl,hx2⟩;go_wp2_with fail;refine(R1 w2).mono ?_;rintro e w3 ⟨v3,rfl,hv3,hx3⟩;obtain⟨b3,A3,n3,c3,b3',A3',n3',c3',rfl,_,_⟩:=hv3.parts;go_wp2_with fail;refine(R2 w3).mono ?_;rintro e w4 ⟨v4,rfl,hv4,iW⟩;obtain⟨b4,A4,n4,c4,b4',A4',n4',c4',rfl,_,_⟩:=hv4.parts;go_wp2_with fail;refine(OP _ _ w4 (hv3.ext iW) hv4).mono ?_;rintro e w5 ⟨v5,rfl,wR,iu⟩;obtain⟨b5,A5,n5,c5,b5',A5',n5',c5',rfl,_,_⟩:=wR.parts;go_wp2_with fail;exact k73):=h
def Ys(h:ai:=by obtain⟨k0,k1,k2,k3⟩:=gK.four;obtain⟨f0,f1,f2,f3⟩:=gK.fO;clear hx1 hx2 hx3 hv2 hv3;go_wp2;exact Kq rfl rfl rfl gK.ae HF bZ (aK _) (fun v W' h1 h2=>⟨v,rfl,h1,h2⟩)):=h
def Yr(h:ai:=by
 go_wp2_with fail
 refine FC.mono ?_;rintro e w4 ⟨rfl,iW⟩;have dU:=af (Iy.trans iW);go_wp2_with fail
 go_roundw;exact⟨i+1,by omega,by go_num,dU⟩;simp [RowKit.intOf];omega):=h
def LZ(h:ai:=by
 go_wp2_with fail
 go_roundw;exact⟨k+1,by omega,by go_num,kV⟩;simp [RowKit.intOf];omega):=h
def m77(h:ai:=by have hb:=py w' h;first|exact⟨hb.aD 0,hb.aD 1,hb.aD 2,hb.aD 3,hb.aD 4⟩|exact⟨hb.aD 0,hb.aD 1,hb.aD 2,hb.aD 3,hb.aD 4,hb.aD 5,hb.aD 6,hb.aD 7,hb.aD 8,hb.aD 9,hb.aD 10⟩):=h
def m78(h:ai:=by
 obtain⟨d,r⟩:=hpl.WS;have w:=hpl.asx r hne hlt;have hu:∀b,(none:Option Nat)=some b->b<n:=fun b h=>by cases h
 have hk:n<=n+gH d none:=Oo _ _;have YE:∀v,v∈(eF n q (fun v=>hl.filter fun t=>fu d (at_ t) ((at_ t).headD 0)==v) n none).vars↔v<n:=fun v=>by rw[xO r n none v hu hk];exact⟨fun h=>h.1,fun h=>⟨h,dM.all r (d v) v h (aK _)⟩⟩
 have QU:=J_ (homes:=fun v=>hl.filter fun t=>fu d (at_ t) ((at_ t).headD 0)==v) r n none hu hk;exact k78):=h
def m79(h:ai:=by
 obtain⟨pr,Fc⟩:∃pr:Nat->Bool,pr=fun k=>(l[k]?.map Q).getD false:=⟨_,rfl⟩;have Ff:∀k (hk:k<l.length),pr k=Q l[k]:=fun k hk=>by rw[Fc];simp only[aV hk];rfl
 have sF:∀W k,ar W g bI (l.map (fun v:aF=>Value.string ⟨v.toArray⟩)++rest)->(hk:k<l.length)->W.cell? ⟨g,k,none⟩=some ((fun v:aF=>Value.string ⟨v.toArray⟩) l[k]):=fun W k h hk=>h.cell (by rw[pC (by rw[cy];exact hk),dY,aV hk];rfl);exact k79):=h
def m80(h:ai:=by rintro e w2 ⟨v2,rfl,hv2,hx2⟩;rw[HE.2,HZ.ae] at hv2;obtain⟨b2,A2,n2,c2,rfl,pd⟩:=hv2.parts;have f4:=af (jT.ext hx2);have aY:=af (bW.trans hx2);obtain⟨r0,r1⟩:=f4.two;have ZG:=f4.frozen 0;have ZF:=f4.frozen 1;clear hv2 hx2;go_wp2;exact ww rfl rfl rfl f4.ae pd aY (aK _) (fun v W' h1 h2=>⟨v,rfl,h1,h2⟩)):=h
def m81(h:ai:=by
 go_wp2_with fail
 refine(amt w.heap.size w.heap.size [] (v:Int) W zG Ou hsz).mono ?_;rintro e1 w1 ⟨rfl,hb1,hx1⟩;have nH:ah (IsBuilder tB t8 w.heap.size w.heap.size (byteCells (UInt8.ofNat v::kO ((kl.take 0).map cur))) w1):=by rw[ah,kH];rw[show(UInt8.ofNat v::kO (([]:List Nat).map cur))= [UInt8.ofNat v] from rfl,amg Om];exact .inr hb1
 have bW:ah (Ext w w1):=sZ HX hx1;have bB:=af (HST.fW aN bW);have c2:=bB.st.sx.cell k2;have ck2:=nu _ bB.k1;exact k81):=h
def m82(h:ai:=by
 obtain rfl:i=T.length:=Om;have L5:(T.take T.length).drop k=T.drop k:=by rw[dA (aK _)]
 rw[L5];have QS:=Cv.ae;unfold B9 at QS;generalize gU 0 (T.drop k)=x at*;clear L5;have htk:(ByteArray.mk T.toArray).extract 0 k=⟨(T.take k).toArray⟩:=by rw[KJ,mO]
 go_wp2_with (at_builtin;refine gG rfl _ _ rh rfl (w.heap.size+1+1) jy _ _ _ rfl HOW.ae #[.int .i64 (x:Int)] 1 1 rfl rfl rfl Om hsz ?_)
 intro v' w3 eX hg3 hb3;obtain⟨A3,c3,rfl,hc3,_,_⟩:=dZ eX;exact k82):=h
def m83(h:ai:=by obtain⟨gl,ol,ZC,gX⟩:=nK HIC dE HX.k2;subst ZC;obtain⟨⟨sz,jz,z1,z2,z3⟩,hM⟩:=Dj k;obtain⟨s1,j1,s2,j2,m1,m2,m3,m4,m5⟩:=hM dE;have vH:=af m4;have ui:=af m5;have fp:=af (SR.acE (R:=D.R) (f:=fun c=>D.vT c (put cur v t)) dE b0);have HST:=af (fun h=>SR.am2 (R:=D.R) (f:=fun c=>D.vT c (put cur v t)) (l:=kl) (i:=k) (b:=b0) h);have Jm:=af (HV _ (aZ dE));obtain⟨lT,jk⟩:=Nt _ (aZ dE);have e3:=gX;exact k83):=h
def m84(h:ai:=by have hz:jO (fun _=>false) 0= -1:=rfl;rw[hz] at CI;go_enter func204,ntmps204;go_wp2_with fail;refine CI.mono ?_;rintro e w' ⟨rfl,rfl⟩;go_wp2;exact bodyPost_ret (v:= .slice A 0 c) azN rfl ⟨rfl,rfl⟩):=h
def Yq(h:ai:=by
 skip
 have k0:=qx.aD 0;have k1:=qx.aD 1;have k2:=qx.aD 2;have f0:=qA.frozen 0;have f1:=qA.frozen 1;have f2:=qA.frozen 2;have r0:=qA.aD 0;have r1:=qA.aD 1;have r2:=qA.aD 2;have Mf:=qA.lt;exact Yy):=h
def m86(h:ai:=by
 obtain⟨g,rest,ZC,tZ,t_⟩:=sO (fun e=>by rw[e] at nu;exact absurd nu (Ot _));subst ZC;have RJ:=t_.bP HC ay0;have hcell:(cb.map encStr++rest)[k]?=some (aO cb[k]):=(by rw[pC (by rw[cy];exact nu),dY,aV nu];rfl)
 have e3:=RJ.cell hcell;have hm:=aZ nu;have fp:=af (SR.Hs (R:=D.R) (f:=fun t=>D.bT v t cur) nu);exact k86):=h
def m87(h:ai:=by refine ax 0 91 ?_;refine ax 1 92 ?_;refine ax 2 93 ?_;refine ax 3 94 ?_;refine ax 4 95 ?_;refine ax 5 96 ?_;refine ax 6 97 ?_;refine ax 7 98 ?_;refine ax 8 99 ?_;refine bY Ok ?_;go_wp2;go_roundw;exact⟨j+1,by omega,by go_num,by rw[om.ae],zE⟩;simp [RowKit.intOf];omega):=h
def m88(h:ai:=by generalize w7.drew=wd at*;have CW:=af (aN.ring.Yb wd yw FJ.1 FJ.2);refine ax 0 66 ?_;refine ax 1 67 ?_;refine ax 2 68 ?_;refine ax 3 69 ?_;refine ax 4 70 ?_;refine ax 5 71 ?_;refine ax 6 72 ?_;refine ax 7 73 ?_;refine ax 8 74 ?_;refine ax 9 75 ?_;refine ax 10 76 ?_;refine ax 11 77 ?_;refine aL 12 ?_;intro K hK;go_simp;refine CW.mono ?_;rintro e8 w8 ⟨u8,rfl,pZ,gI⟩;have xx:=af (ed.fW aN gI);have HCa:=af (iJ.ext gI);exact k88):=h
def m89(h:ai:=by
 by_cases h0:a_ z.natAbs= []
 ·rw[uH.1 h0,nDigits_small Od];decide
 ·have h1:=aa7 (df z.natAbs) h0;rw[dm] at h1;have h2:=(EI ((df z.natAbs).1.getElem (k:=(a_ z.natAbs).length - 1) (by have:=J1.2 h0;omega))).1;rw[<-List.getLast_eq_getElem h0] at h2;omega):=h
def m90(h:ai:=by
 obtain⟨g',rfl,h1,h2⟩:=h;have h3:=h1.lt;refine⟨⟨g',rfl,h1.alloc _,h2⟩,fun b hb he=> ?_,fun b hb he=> ?_⟩
 ·rw[hv] at he;have hb:some g'=some b:=hb;injection hb with hb;injection he with he;omega
 ·rw[hv] at hb;have he:some g'=some b:=he;injection hb with hb;injection he with he;omega):=h
def m91(h:ai:=by clear hz;go_enter func165,ntmps165;go_wp2_with fail;refine aP (P:=fun W=>Calls _ _ _ W _) fun W HX HB=> ?_;refine(HZ W (HV.ext HX)).mono ?_;rintro e w1 ⟨rfl,hx1⟩;rw[hd];go_wp2;go_ret;exact⟨pI HS.symm,HX.trans hx1⟩):=h
def Yp(h:ai:=by
 go_wp2_with fail
 go_roundw;exact⟨j+1,m,o3,by omega,by go_num,by first|rfl|trivial,HB,HI,aY,BX,HE⟩;simp [RowKit.intOf];omega):=h
def Yo(h:ai:=by go_enter func184,ntmps184;go_wp2_with fail;refine CS.mono ?_;rintro e w1 ⟨rfl,rfl⟩;go_wp2;go_ret;exact⟨rfl,rfl⟩):=h
def m94(h:ai:=by generalize wr.drew=wd at*;have CB2:=af (CB wd aY);refine ax 0 63 ?_;refine ax 1 64 ?_;refine ax 2 65 ?_;refine ax 3 66 ?_;refine ax 4 67 ?_;refine ax 5 68 ?_;refine ax 6 69 ?_;refine ax 7 70 ?_;refine ax 8 71 ?_;refine aL 9 ?_;intro K hK;go_simp;refine CB2.mono ?_;rintro e5 w5 ⟨u5,RO,rfl,wR,iu,ha5,qg⟩;have en:=af iu;have SL:ah (∀a,bK D.p v a=true->RO a=cur a):=fun a ha=>(ha5 a ha).trans (HA a ha);exact k94):=h
def m95(h:ai:=by
 go_wp2_with fail
 refine(PA W).mono ?_;rintro e w1 ⟨rfl,hx1⟩;obtain⟨t0,t1⟩:=(BX.ext hx1).two;go_wp2_with fail;refine(BA w1).mono ?_;rintro e w2 ⟨rfl,hx2⟩;go_wp2_with fail;refine(SA w2).mono ?_;rintro e w3 ⟨rfl,hx3⟩;go_wp2;go_ret;exact⟨rfl,HX.trans (hx1.trans (hx2.trans hx3))⟩):=h
def m96(h:ai:=by rintro e w3 ⟨v3,rfl,hv3,hx3⟩;go_wp2_with fail;refine(ab3 _ _ w3 hv3).mono ?_;rintro e w4 ⟨v4,rfl,hv4,iW⟩;obtain⟨r0,R0,r1,r2,s0,S0,s1,s2,rfl,jT,f4⟩:=hv4.parts;have kh:=af (GA.ext (hx3.trans iW));obtain⟨k0,k1,k2,k3⟩:=kh.four;obtain⟨f0,f1,f2,f3⟩:=kh.fO;go_wp2;refine AP rfl rfl rfl kh.ae (.mk' jT.ae f4.ae) (aY.trans (hx3.trans iW)) Om (fun v W' h1 h2=>⟨v,rfl,?_,h2⟩);exact k96):=h
def m97(h:ai:=by refine(abC Aa Ab ca cb _ _ w Om Om jk (df _) (df _) (by rw[dm,dm];exact hle) h1 h2).mono ?_;rintro e w' ⟨A,r,c,hc,_,hr,rfl,hd,hv,hs,hx⟩;exact⟨_,rfl,⟨A,r,c,rfl,hc,hd,hs,by omega,by rw[hv,dm,dm]⟩,hx⟩):=h
def Yn(h:ai:=by
 go_upto_region 1 with fail
 refine aP fun W HX BX=> ?_;obtain⟨s0,s1⟩:=BX.two;go_wp2;go_ret;exact⟨rfl,HX⟩):=h
def m99(h:ai:=by have wL:=ok.self hv;have YJ:=ok.wk.Yz hv ht;have ru:dt D.fx v t=true:=((Pj ok.wk.tb wL (ok.wk.ne v hv)).1 ht).1;obtain⟨W1,hW1,bW,gZ⟩:=(h.drew ok).Qp ok hv t;obtain⟨W2,hW2,aY,et⟩:=bW.EG ok hv true;have lT:=(h.st.drew.nc.cell (O8 (cur:=cur) hv));have hfn:=h.st.drew.nc.frozen v;have hcs:=(bW.st.sc.cell (rP (on:=bK D.p v) hv));have p_:=bW.st.sc.frozen v;rw[aeA] at aY;exact k99):=h
def aht(h:ai:=by
 have h1:=h o hi (fun a' w'=>(T i=false->S w')/\cG P md ops Q S T fuel (listed.setIfInBounds i true) a' w') (fun _ _ h1 h2=>⟨h1,h2⟩);unfold wpOp;simp only[hi];split
 ·rename_i hw;rw[if_pos hw] at h1;exact .inl h1
 ·rename_i hw;rw[if_neg hw] at h1;exact h1):=h
def ahs(h:ai:=by
 have lS:k+1<a.length:=by
  rcases cA (k+1) a.length with h|h
  ·exact h
  ·have e:k+1=a.length:=Om;have:=aoz CA CB HL (r:=r++ [T]) (c:=1) (by simp [HR.ae,e]) (HD.snoc I_) (by rw[<-e];exact kT);omega
 have et:=af (gZ.stored k (.int .i64 (T:Int))).1;rw[List.set_set,TE HR.ae Om] at et;have hr1:(r++ [T]).length=k+1:=by simp [HR.ae]
 exact ah1):=h
def ahr(h:ai:=by
 have HE:=af (bW.trans iZ);obtain⟨g0,o0,Bk,dk,rfl,hg0,HLk,sF⟩:=fS.get (Ie HL HE) dE;have Mh:k<x.aA.length:=by rw[<-SC.ae];exact dE
 have rC:=af (HD k _ _ (aV dE) (aV Mh));have Js:ah (x.aA[k]?=some x.aA[k]):=aV Mh;have BXr:=af (kg.ext iZ);generalize x.aA[k]=r at*;generalize D[k]=t at*;exact ah0):=h
def ahq(h:ai:=by
 obtain rfl:k=kl.length:=Om;have d1:decide ((kl.length:Int)<(kl.length:Int))=false:=aW;have yQ:=xE kl.length;rw[HNM.ae] at nH yQ;have QA:ah (nL v (D.key v) cur=nL v kl cur):=by rw[ah,XS.ae]
 rw[<-XS.ae] at F_;generalize nL v kl cur=nm at*;have HBF:=af (IsBuilderF.of nH);have aY:=af bW.drew;have d9:=af (HST.fW aN aY);exact ahZ):=h
def ahp(h:ai:=by obtain⟨cb,kb,hb,A,c,k1,_,_,_,hC,_,_,_⟩:=hp;obtain⟨B,d,hc,HB,hn⟩:=PL hC hl;have c1:=h.sx.cell k1;have c2:=hc w Mi;clear h hC hl hc;generalize x.aq.length=N at*;have hwr:IntKind.i64.wrap (((N+1:Nat):Int) - 1)=(N:Int):=azL;have axN:IntKind.i64.wrap ((N:Int)+1 - 1)=(N:Int):=azL;have Y8:(N:Int)<(N:Int)+1:=Om;exact ahY):=h
def Xg(h:ai:=by
 go_wp2_with fail
 exact bodyPost_ret (v:= .bool true) (by simp [results,results57,go_sem]) rfl ⟨rfl,nY⟩):=h
def aho(h:ai:=by
 go_upto_region 8 with fail
 have bh:ah (Ext W (W.drewN nq)):=(aC W).drewN nq;generalize W.drewN nq=W2 at*;have et:=af (gZ.ext fL bh);have js:=af (BX.ext bh);have kW:=af (cQ ug bh);have aY:=af (bW.trans bh);have f4:=af (jM HR bh);have fR:=af (lg (fun c x hc=>fL _ _ _ _ (fun _ _=>rL bh) hc) HC);exact ahX):=h
def ahn(h:ai:=by
 have iY:decide (p.den=1)=true:=decide_eq_true dD;have HP1:=af dD;clear dD;go_wp2_with fail
 refine(Uy _ q w1 (R9.ext bW) HFB.1 HFB.2).mono ?_;rintro e w2 ⟨rfl,hx2⟩;have zQ:=af (Dt.ext hx2);have Dq:=af (Dr.ext hx2);have GA:=af (vM.ext hx2);have aY:=af (bW.trans hx2);obtain⟨a0,a1,a2,a3⟩:=zQ.four;obtain⟨b0,b1,b2,b3⟩:=Dq.four;exact ahW):=h
def Xf(h:ai:=by
 go_wp2_with fail
 go_roundw;exact⟨i+1,by omega,by go_num,by first|rfl|trivial⟩;simp [RowKit.intOf];omega):=h
def ahm(h:ai:=by go_enter func108,ntmps108;go_wp2_with fail;refine(V w).mono ?_;rintro e w1 ⟨rfl,hx1⟩;go_wp2_with fail;refine(HC w1).mono ?_;rintro e w2 ⟨rfl,hx2⟩;go_wp2;go_ret3;exact⟨rfl,hx1.trans hx2⟩):=h
def ahl(h:ai:=by obtain⟨a,b,c,d,rfl,h1,h2⟩:=h;obtain⟨b1,A1,n1,c1,e1,H1⟩:=h1.parts;obtain⟨b2,A2,n2,c2,e2,H2⟩:=h2.parts;simp at e1 e2;obtain⟨rfl,rfl⟩:=e1;obtain⟨rfl,rfl⟩:=e2;exact⟨b1,A1,n1,c1,b2,A2,n2,c2,rfl,H1,H2⟩):=h
def Xe(h:ai:=by obtain⟨ys,h1,h2⟩:=h.of;exact⟨ys,jw h1 hg (Kg hown h1 Od),h2⟩):=h
def ahk(h:ai:=by have sB:=lW.frozenAt i;have hfj:=lW.frozenAt j;have Sb:=af (lD.step (by rw[xE.ae];exact zA) hlt M[j] M[i] (aV sw) (aV Fq));have qu:=af (((lW.stored i (.int .u8 (M[j].toNat:Int))).1.stored j (.int .u8 (M[i].toNat:Int))).1);rw[aaX,aaX] at qu;generalize M[i]=x at*;generalize M[j]=y at*;clear hML Fq sw;go_wp2;exact ahV):=h
def ahj(h:ai:=by
 have zy:=af hle;have bh:ah (Ext w (W.drewN nn)):=bh.drewN nn;have H0:ah (fV (W.drewN nn) w.heap.size (.bool ba) (.slice Aa na ca) (.bool bb) (.slice Ab nb cb) (.bool false) (.slice none 0 0)):=H0.drewN nn;clear hle c0 c1 c2 c3;generalize ew x.natAbs y.natAbs=cm at*;generalize W.drewN nn=W at*;obtain⟨c0,c1,c2,c3⟩:=H0.cells;go_wp2_with fail
 obtain⟨c0,c1,c2,c3⟩:=H0.cells;exact ahU):=h
def ahi(h:ai:=by have Qz:ah (lj fx on cur v ia (cj ra) (lf.take (j+1))=lo):=aAq;go_wp2_with fail;go_roundw;exact⟨j+1,by omega,by go_num,by rw[Qz.ae];exact ke,H59⟩;simp [RowKit.intOf];omega):=h
def ahh(h:ai:=by
 go_wp2_with fail
 refine SM.mono ?_;rintro e w3 ⟨rfl,hx⟩;have bZ:=af (nY.trans hx);go_wp2_with fail
 exact bodyPost_ret (v:= .bool true) (by simp [results,results57,go_sem]) rfl ⟨rfl,bZ⟩):=h
def ahg(h:ai:=by
 obtain⟨k,m',hk,xd,QS,hrd⟩:=ajA FZ hT;have Qs:max (0:Int) ((T.length:Int) - 9)=(k:Int):=Om;have HK:=af hk;have HDG:=af xd;have Sc:=af hrd;have Cv:=af QS;have dE:k<=T.length:=Om;have hk9:T.length<=k+9:=Om;clear hk xd hrd QS;go_wp2_with fail
 clear Qs;obtain⟨wo,rfl⟩:∃wo:World,wo=wr:=⟨_,rfl⟩;exact ahT):=h
def ahf(h:ai:=by
 go_upto_region 1 with fail
 refine aP fun w cD BZ=> ?_;have h:=h0.fW ok cD;have wT:wy.heap.size<w.heap.size:=BZ.lt;have wV:D.nb<wy.heap.size:=h0.st.nc.lt;have E_:D.sb<wy.heap.size:=h0.st.sc.lt;have hkb:D.kb<wy.heap.size:=h0.mem.lt;have IK:D.xb<wy.heap.size:=h0.st.sx.lt;have hw0:D.w0.heap.size<=wy.heap.size:=h0.st.ex.size;clear h0;exact ahS):=h
def ahe(h:ai:=by have YH:t%B9<1000000000:=fg _ Od;have Ma:t/B9<1000000000:=ay1;have om:=af (HDP.snoc (x:=t%B9) (fg _ Od));have Gr:=af (ac4 (i:=i+k) (x:=t%B9) eE (z:=((t%B9:Nat):Int)) rfl);rw[HQ.ae,AY _ _ _ _ _ HP.ae] at Gr;generalize t%B9=d at*;generalize t/B9=q at*;have HP1:=af dD;go_wp2;exact ahR):=h
def ahd(h:ai:=by
 go_upto_region 1 with fail
 refine aP fun W HX BX=> ?_;obtain⟨s0,s1⟩:=BX.two;go_wp2_with fail;refine(WA W).mono ?_;rintro e w1 ⟨rfl,hx1⟩;go_wp2;go_ret;exact⟨rfl,HX.trans hx1⟩):=h
def ahc(h:ai:=by have qy:=af kT;clear hA kT yV Fx;go_wp2;go_roundw;exact⟨k+1,0,r++ [T%B9],by omega,by go_num,by omega,by omega,hr1,HD.snoc I_,qy,et,bW⟩;simp [RowKit.intOf];omega):=h
def ahb(h:ai:=by generalize wr.drew=wd at*;have SM:=af (CV wd aY);refine ax 0 18 ?_;refine ax 1 19 ?_;refine ax 2 20 ?_;refine ax 3 21 ?_;refine ax 4 22 ?_;refine ax 5 23 ?_;refine ax 6 24 ?_;refine ax 7 25 ?_;refine aL 8 ?_;intro K hK;go_simp;refine SM.mono ?_;rintro e5 w5 ⟨u5,RO,rfl,wR,iu,qg⟩;have en:=af iu;have qw:=af (fR.trans qg);exact ahQ):=h
def aha(h:ai:=by have h1:=Jm cu w' (by rw[vJ.ae];exact h) (fun a ha=>by rw[vJ.ae] at ha;cases ha);rw[Cz.ae cu,vJ.ae] at h1;refine h1.mono ?_;rintro e w'' ⟨u,cur',h1,h2,h3,_,h5⟩;exact⟨u,cur',h1,h2,h3,h5⟩):=h
def ag_(h:ai:=by have aH:ah (I W.drew):=kE _ (ig (aC W)).drew (HMW.ext (aC W).drew);clear Ja BR;refine b9 (S:=I) (T:=fun _=>false) Ok ?_;generalize W.drew=wd at*;refine ax 0 20 ?_;refine ax 1 21 ?_;refine ax 2 22 ?_;refine ax 4 24 ?_;refine ax 5 25 ?_;refine ax 6 26 ?_;refine ax 7 27 ?_;refine ax 8 28 ?_;refine ax 10 30 ?_;exact ahP):=h
def ag'(h:ai:=by go_wp2;go_quiet (fail);go_wp2;go_roundw;exact⟨q - 1,r+v1,congrArg _ Om,congrArg _ Om,HG',by omega,by first|exact WH _ _|exact Ll _ _ _⟩;simp [intOf];omega):=h
def ag9(h:ai:=by
 obtain⟨ba,Aa,na,ca,rfl,HA⟩:=ha.parts;obtain⟨bb,Ab,nb,cb,rfl,HB⟩:=hb.parts;have Mx:(ba==bb)=false:=by rw[HA.inv.1,HB.inv.1];simpa using wQ
 have MU:=af wQ;clear wQ;have FX:=af fx;have FY:=af fy;clear ha hb fx fy;go_enter func156,ntmps156;go_wp2_with fail
 exact ahO):=h
def ag8(h:ai:=by obtain⟨r0,r1⟩:=jT.two;have ZG:=jT.frozen 0;have ZF:=jT.frozen 1;clear vh hc;go_wp2;exact ww rfl rfl rfl jT.ae HV bW (aK _) (fun v W' h1 h2=>⟨v,rfl,h1,h2⟩)):=h
def ag7(h:ai:=by
 go_upto_region 1 with fail
 refine aP fun W HX BT=> ?_;have cK:=BT.lt;have hl0:=HN.lt;have bL:ah (∀w':World,ay w' bn 0 Cr->ay w' bn 0 Cr):=fun _ h=>h;have bU:ah (∀w':World,Ext W w'->ay w' bn 0 Cr):=fun w' h=>((HN.ext HX).ext h).aD 0;have aH:=af (bU _ (aC W).drew);exact ahN):=h
def Xd(h:ai:=by rintro e w' ⟨r,c,hc,rfl,hr,hv,hs,hx⟩;exact⟨_,rfl,.mk' hr (by rw[hv,dm,dm]) hc hs,hx⟩):=h
def ag6(h:ai:=by have hM:=lD.done (by rw[xE.ae];exact zA) hlt;rw[List.reverse_reverse] at hM;subst hM;have hcv:=amD lW;go_wp2;go_ret;exact⟨rfl,sZ HX (py.mono (l9 _))⟩):=h
def EJ(h:ai:=by intro oo rr K hK;simp only[fU,eB,dR,dG] at rr;subst rr;refine mr rfl ?_;exact EK):=h
def ag5(h:ai:=by
 have ayT:=fZ _ (aZ vp);have zg:ah (eL (kd x cs[j]) yv[j]):=Cx.2 j _ _ (aV vp) (aV wZ);generalize cs[j]=a at*;generalize yv[j]=t at*;obtain⟨an,rfl⟩:∃an:Nat,a=an:=⟨a.toNat,by omega⟩;have aiG:an<AN:=Om;have kQ:an<x.aq.length:=by rw[vJ.ae];exact aiG
 exact ahM):=h
def ag4(h:ai:=by
 rw[Tw];constructor
 ·rintro⟨v,_,hv⟩;exact(fI.1 hv).1
 ·intro hh;exact⟨_,(YE _).2 (w.lt h hh _ (w.mem h hh)),fI.2 ⟨hh,beq_self_eq_true _⟩⟩):=h
def ag3(h:ai:=by
 refine bY Ok ?_;have kV:=af (rA.trans aH);go_wp2_with fail
 go_roundw;exact⟨j+1,by omega,by go_num,kV⟩;simp [RowKit.intOf];omega):=h
def ag2(h:ai:=by have xL:=af (BO.bP qg ay0);have xJ:=af (pB.bP qg ay0);have bB:ah (ar w5 D.xb D.tX D.cs/\ar w5 ob dI [.bool o0,.slice O0 o1 o2,.bool p0,.slice P0 p1 p2]):=⟨iu.st.sx,xL⟩;have Ri:=aY.Qe qg;exact ahL):=h
def ag1(h:ai:=by
 go_wp2_with fail
 refine sf (P:=fun W=>Calls _ _ _ W _) fun W HX BA BB BR=> ?_;refine(Uy _ p W (HVA.ext HX) HFA.1 HFA.2).mono ?_;rintro e w1 ⟨rfl,hx1⟩;have Dt:=af (BA.ext hx1);have Dr:=af (BB.ext hx1);have vM:=af (BR.ext hx1);have bW:=af (HX.trans hx1);obtain⟨b0,b1,b2,b3⟩:=Dr.four;exact ahK):=h
def ag0(h:ai:=by have g7:=af (eE.only eX Om);have Dg:=af (iA.wd eX mJ);have hs3:bs<=w5.heap.size:=a8 hsd eX.size;have gL:=af (et.only cI eX Om Oe);have aH:=g7;refine hK.ae _ _ (fun _=>aH.ae) ?_;refine ax 15 41 ?_;refine ax 16 42 ?_;refine bY Ok ?_;exact ahJ):=h
def auM(h:ai:=by obtain⟨wX,aie,aiy⟩:=bE hl;subst wX;have HL:=af hl;have HD:=af hD.2;have r6:=ok.r6;obtain⟨A,c,B,d,Dd,e,rfl,ha,h_,hf⟩:=h;obtain⟨-,iY,kB⟩:=bE h_;have hDl:=hD.1;have SC:=af hDl;rw[<-hDl] at CH CT r6 iY⊢;clear hl ha h_ hf ok hD hDl;generalize x.aq.length=AN at*;generalize x.bk.length=FN at*;exact ahI):=h
def agZ(h:ai:=by go_enter func42,ntmps42;go_wp2_with fail;refine aP (P:=fun W=>Calls _ _ _ W _) fun W HX HR=> ?_;refine(HC W).mono ?_;rintro e w1 ⟨rfl,hx1⟩;go_wp2_with fail;refine(RN w1).mono ?_;rintro e w2 ⟨v2,rfl,hv2,hx2⟩;obtain⟨b2,A2,n2,c2,rfl,pd⟩:=hv2.parts;go_wp2_with fail;exact ahH):=h
def Xc(h:ai:=by go_wp2;go_round;exact⟨k+1,by omega,by go_num⟩;simp [RowKit.intOf];omega):=h
def agY(h:ai:=by have HV:ah (ew (val a) (val b)=0):=(by obtain rfl:m= -1:=Om;have:=HD.ae;simp at this;rw[this];exact ars rfl);go_wp2;rw[HV.ae];go_ret;exact⟨rfl,_,rfl⟩):=h
def agX(h:ai:=by unfold Oper.wp execOp;simp only[ho,resolve,invoke,builtin,Sem.run_bind,Sem.run_pure,Result.andThen_ok,List.map_toArray,sW,List.map_nil,hs,hx,hr];exact h v' w' h2 h3 h5):=h
def agW(h:ai:=by
 go_upto_region 4 with fail
 go_quiet (fail);go_wp2_with fail;go_roundw;exact⟨j+1+1,by omega,by omega,by go_num,HX.drewN _⟩;simp [RowKit.intOf];omega):=h
def agV(h:ai:=by generalize w5.drew=wd at*;have CV:=af (Jm cu wd Ix JC);refine ax 0 102 ?_;refine ax 1 103 ?_;refine ax 2 104 ?_;refine ax 3 105 ?_;refine ax 4 106 ?_;refine ax 5 107 ?_;refine ax 6 108 ?_;refine ax 7 109 ?_;refine aL 8 ?_;intro K hK;go_simp;refine CV.mono ?_;rintro e8 w8 ⟨u8,RM,rfl,pZ,gI,RA,xh⟩;exact ahG):=h
def Xb(h:ai:=by
 rcases cA i x.aA.length with h|h
 ·exact h
 ·rw[fH h] at hr;cases hr):=h
def agU(h:ai:=by
 have hn:news= []:=by
  rcases news with _|⟨u,r⟩
  ·rfl
  ·obtain⟨g,o',_,_,hA,_⟩:=hnews 0 u rfl;cases hA
 subst hn;have hm:m=0:=by
  have:=T.pos;rcases i7 m with h0|h0
  ·exact h0
  ·have:=Nat.mul_pos h0 this;simp only[vU] at hl;omega
 subst hm;have hc0:=hc rfl;subst hc0;exact ahF):=h
def agT(h:ai:=by have bZ:=af (aY.trans hx3);clear hb3 hx3;go_wp2;go_roundw;exact⟨k,by omega,congrArg _ Om,g7,bZ⟩;simp [RowKit.intOf];omega):=h
def Xa(h:ai:=by obtain⟨ys,h1,h2⟩:=h.ol;exact⟨ys,jw h1 hg (Kg hown h1 Od),h2⟩):=h
def W_(h:ai:=by obtain⟨ys,h1,h2⟩:=h.oa;exact⟨ys,jw h1 hg (Kg hown h1 Od),h2⟩):=h
def agS(h:ai:=by
 rcases i7 n with h|h
 ·subst h;rfl
 ·have:(a_ n).length≠0:=fun h0=>by have:=uH.1 (lH h0);omega
  simp;omega):=h
def WY(h:ai:=by
 rcases cA q a.heap.size with h'|h'
 ·exact h'
 ·simp [zS h'] at h):=h
def agR(h:ai:=by
 rw[dA (by rw[j9.ae];exact aK _)] at HU;have hall:∀a,a<N->bs[a]?=some true:=fun a ha=>by obtain⟨r,hr,hm⟩:=aN.used a (by rw[HN.ae];exact ha);have h:=HU.2 (a:Int) (ox.2 ⟨r,hr,hm⟩);rw[kF] at h;exact h
 rw[aqc HU.1 hall] at BU;exact ahE):=h
def agQ(h:ai:=by go_quiet (fail);go_wp2;go_roundw;exact⟨j+1,by omega,by go_num,⟨_,rfl⟩,by rw[ah,HA.ae,HAS.ae];simp⟩;simp [RowKit.intOf];omega):=h
def agP(h:ai:=by refine a8 (ac1 y.2 (fun fx a ha=>apb ok (acX hB) fx (hy.ao a ha)) _) ?_;exact a8 (gM Od hy.al) Od):=h
def agO(h:ai:=by refine ax 0 14 ?_;refine ax 1 15 ?_;refine ax 2 16 ?_;refine ax 3 17 ?_;refine ax 4 18 ?_;refine ax 5 19 ?_;refine ax 6 20 ?_;refine ax 7 21 ?_;refine ax 8 22 ?_;refine ax 9 23 ?_;refine ax 10 24 ?_;refine ax 11 25 ?_;refine aL 12 ?_;intro K hK;go_simp;rw[FL.ae];refine hK.ae _ _ (fun _=>bB.ae) ?_;exact ahD):=h
def agN(h:ai:=by
 rcases h with⟨hB,v,hb,ho,hn⟩|⟨hB,v,hb,ho,hn⟩
 ·exact .inl ⟨hB,v,hb'.trans hb,own ho,hn⟩
 ·exact .inr ⟨hB,v,hb'.trans hb,own ho,hn⟩):=h
def agM(h:ai:=by clear tJ ni;go_wp2_with fail;go_roundw;exact⟨i+1,by omega,by go_num,by rw[Ng.ae];exact ub,Je⟩;simp [RowKit.intOf];omega):=h
def yu(h:ai:=by obtain⟨ba,Aa,na,ca,rfl,HA⟩:=ha.parts;obtain⟨bb,Ab,nb,cb,rfl,HB⟩:=hb.parts;have FX:=af fx;have FY:=af fy;exact yx):=h
def agL(h:ai:=by
 obtain⟨ba,Aa,na,ca,rfl,HA⟩:=ha.parts;obtain⟨bb,Ab,nb,cb,rfl,HB⟩:=hb.parts;have Mx:(ba==bb)=false:=by rw[HA.inv.1,HB.inv.1];simpa using wQ
 have MU:=af wQ;have FX:=af fx;have FY:=af fy;go_enter func143,ntmps143;exact ahC):=h
def agK(h:ai:=by go_wp2;refine AP rfl rfl rfl kh.ae (.mk' jT.ae f4.ae) (HX.trans tQ) Om (fun v W' h1 h2=>⟨v,rfl,?_,h2⟩);rw[<-Kh];exact h1):=h
def agJ(h:ai:=by go_wp2;refine AP rfl rfl rfl kh.ae (.mk' jT.ae f4.ae) (HX.trans mC) Om (fun v W' h1 h2=>⟨v,rfl,?_,h2⟩);rw[<-Kk];exact h1):=h
def agI(h:ai:=by go_enter func146,ntmps146;go_wp2;go_ret;exact⟨pI HS.symm,(aC w).alloc _⟩):=h
def agH(h:ai:=by rw[ah,kH];rw[show D.R.prod ([]:List Nat) (fun c=>D.vT c (put cur v t))=D.R.one from rfl,SR.Ca];have h:=HU.ae;rwa[f9] at h):=h
def agG(h:ai:=by simp only[fU,eB,dR,dG] at ho;subst ho;refine⟨rfl,rfl,fun w'=> ?_⟩;go_simp):=h
def agF(h:ai:=by
 have e1:(ByteArray.mk l.toArray).extract 0 a.length=⟨a.toArray⟩:=by rw[KJ,Nr.ae];simp
 have e2:(ByteArray.mk l.toArray).extract (a.length+1) l.length=⟨b.toArray⟩:=by rw[KJ,dA (aK _),Nr.ae,show a++47::b=(a++ [47])++b by simp,List.drop_left' Ou]
 exact ahB):=h
def agE(h:ai:=by clear hl;go_enter func161,ntmps161;go_wp2;go_ret;exact⟨pI HV.symm,0,rfl⟩):=h
def agD(h:ai:=by have aY:=af (HX.drew aN);have fR:=af HC.drew;have pB:=af BZ.drew;obtain⟨o0,O0,o1,o2,p0,P0,p1,p2,BO,VO⟩:=HU.drew.parts;have aH:ah (ar wr.drew D.xb D.tX D.cs/\ar wr.drew ob dI [.bool o0,.slice O0 o1 o2,.bool p0,.slice P0 p1 p2]):=⟨aY.st.sx,BO⟩;exact ahA):=h
def agC(h:ai:=by
 have gV:j<ls.length:=by rw[<-h.len];exact(vO.1 hu).1
 exact((h.own j u _ hu (aV gV)).blk hb).2.1):=h
def agB(h:ai:=by obtain⟨ga',oa',ee,h1,h2,h3⟩:=oL (AL.past SK xA ho) kQ;injection ee with ee;injection ee with e1 e2;subst e1 e2;exact⟨h2,h3⟩):=h
def agA(h:ai:=by have en:=af (dU.trans iu);clear o8 iu;go_wp2;go_roundw;exact⟨k,by omega,rfl,ut,en⟩;simp [RowKit.intOf]):=h
def agz(h:ai:=by
 go_wp2_with fail
 go_quiet (fail);go_wp2;go_roundw;exact⟨1,by omega,by go_num,kV.drewN _⟩;simp [RowKit.intOf];omega):=h
def agy(h:ai:=by have lF:=af (BX.ext nQ);have rp:wB.heap.size<=WZ.heap.size:=nB.bP.size;clear hK nQ gX j8;refine aL 8 ?_;intro K hK;refine mr rfl ?_;refine qO _ _ eG rfl wB.heap.size xT _ _ _ rfl xB.ae _ [.slice By yk.length dy,av yw] BZ.ae 1 1 rfl rfl rfl cK rp ?_;intro v' w7 kR EM EO;exact ahz):=h
def agx(h:ai:=by have:=Vx (i:=i+k) eE (by rw[HQ.ae,bC,HP.ae,cW];omega);rw[this,HQ.ae,D_ _ _ _ _ HP.ae]):=h
def agw(h:ai:=by
 go_wp2_with fail
 go_roundw;exact⟨j+1,_,bk,_,by omega,by go_num,vI.skip,d8⟩;simp [RowKit.intOf];omega):=h
def agv(h:ai:=by rw[beq_eq_false_iff_ne];intro h;have h0:q.num=0:=AV (h.trans Eg.symm);have:=q.reduced;rw[h0] at this;exact h1 (by simpa using this)):=h
def axJ(h:ai:=by
 apply Array.ext_getElem?
 intro j;by_cases e1:j=i1
 ·subst e1;rw[h1,h3]
 ·by_cases e2:j=i2
  ·subst e2;rw[h2,h4]
  ·exact hL j e1 e2):=h
def agu(h:ai:=by
 show o.take k++(if eA o[k].1 x.1=true then o[k]::gC x (o.drop (k+1)) else if (o[k].1==x.1)=true then _ else _)=_
 rw[hl,he];rfl):=h
def agt(h:ai:=by
 show o.take k++(if eA o[k].1 x.1=true then o[k]::eK x (o.drop (k+1)) else if (o[k].1==x.1)=true then _ else _)=_
 rw[hl,he];rfl):=h
def ags(h:ai:=by refine aL 7 ?_;intro K hK;go_simp;refine hK.ae _ _ (fun _=>bU _ (zf.alloc _)) ?_;refine aP fun WZ cD BZ=> ?_;have nQ:=zf.trans cD;have nB:=af (jH.ext nQ);have CJ:=af (cQ FU nQ);have xB:=af (jM Sa nQ);exact ahy):=h
def axI(h:ai:=by
 rcases Tm z 0 with h|h|h
 ·rw[N2 h];omega
 ·subst h;simp
 ·rw[Dx h];omega):=h
def agq(h:ai:=by go_wp2;go_roundw;exact⟨i+1,by omega,by go_num,by rw[HW.ae,vG.ae],trivial⟩;simp [RowKit.intOf];omega):=h
def agp(h:ai:=by have k0:=B8.aD 0;have k1:=B8.aD 1;have k2:=B8.aD 2;have f0:=xK.frozen 0;have f1:=xK.frozen 1;have f2:=xK.frozen 2;have r0:=xK.aD 0;have r1:=xK.aD 1;have r2:=xK.aD 2;have Mf:=xK.lt;exact ahx):=h
def WX(h:ai:=by have CN1:=af (CN W HX);obtain⟨s0,s1,s2,s3⟩:=BX.four;go_wp2_with fail;refine CN1.mono ?_;rintro e1 w1 ⟨A1,rfl,hv,hx⟩;have bW:=af (HX.trans hx);have uk:=af hv;exact Xi):=h
def ago(h:ai:=by have d1:decide ((k:Int)<(D.length:Int))=false:=aW;go_wp2;go_ret;exact⟨rfl,bW.trans iZ⟩):=h
def agn(h:ai:=by obtain⟨s0,s1,s2,s3⟩:=kg.four;have lU:=kg.lt;have d1:decide ((i:Int)<0)=false:=aW;have d2:decide (RN<=i)=false:=aW;have d3:decide (most<l.length)=false:=aW;generalize vu:w.heap.size=bs at*;exact ahw):=h
def agm(h:ai:=by have a1:=ok.cm;have a2:=ok.cw;have a3:=h.st.cN;have a4:=h.st.cS;exact fun w' h=>⟨h.cell a1,h.cell a2,h.cell a3,h.cell a4⟩):=h
def agl(h:ai:=by
 generalize t++ [0]=t0 at*;go_wp2_with fail;refine CW.mono ?_;rintro e6 w6 ⟨rfl,Zl,iq⟩;have qx:ah (IsBuilder tB t8 w.heap.size w.heap.size (byteCells (UInt8.ofNat v::kO ((kl.take (k+1)).map cur))) w6):=by rw[awj.ae];exact .inr Zl
 have cY:ah (Ext w w6):=sZ bW iq;exact ahv):=h
def agk(h:ai:=by obtain⟨_,_,hA,_,hc⟩:=SV.at_ (mg hk);injection hA with hA;injection hA with h1 h2;subst h1 h2;rw[hc,gP hk]):=h
def agj(h:ai:=by rintro e w9 ⟨rfl,pX⟩;go_wp2;go_ret;exact⟨by rw[FW.ae];rfl,sZ HX ((bW.trans pX).mono (l9 _))⟩):=h
def agi(h:ai:=by go_wp2;go_roundw;exact⟨i+1,by omega,by go_num,by rw[vG.ae],trivial⟩;simp [RowKit.intOf];omega):=h
def agh(h:ai:=by
 go_wp2_with fail
 go_roundw;exact⟨i+1,by omega,by go_num,asN HQ _⟩;simp [RowKit.intOf];omega):=h
def agf(h:ai:=by have ax4:(a:Int)%1000000000=0:=kA;clear IX kA;go_wp2_with (at_builtin;refine gG rfl _ _ rh rfl (w.heap.size+1+1) jy _ _ _ rfl HOW.ae #[.int .i64 ((0:Nat):Int)] 1 1 rfl rfl rfl Om hsz ?_);intro v' w3 eX hg3 hb3;obtain⟨A3,c3,rfl,hc3,_,_⟩:=dZ eX;exact ahu):=h
def age(h:ai:=by have h1:=HU.1;exact⟨_,BU.cell (i:=q) (by rw[qV,dY,aV Om];rfl)⟩):=h
end Go.Proofs.YthfffpcmldipgaaGreatDoor
