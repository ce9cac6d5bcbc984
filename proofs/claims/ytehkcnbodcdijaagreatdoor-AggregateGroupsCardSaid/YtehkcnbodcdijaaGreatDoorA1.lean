/- Texts of the proof, part 1. -/
import Derived.Test.YtehkcnbodcdijaaGreatDoorA0
import Derived.BigQuiet
import Derived.BigRegion
import Derived.Carry
import Derived.Deep.DeepCutAuto
import Derived.Deep.DeepHandedRow
import Derived.Deep.LoopGhost
import Derived.Deep.QuietTactic
import Derived.Deep.RegionHeld3
import Derived.Deep.RegionWith
import Derived.IntWalk
import Derived.LaidSub
import Derived.Laws.AppendOwnNone
import Derived.Laws.Bits64b
import Derived.Laws.CopyOwn
import Derived.Laws.Cover1
import Derived.Laws.EntriesVeiled
import Derived.Lib.AppendIntMem
import Derived.Lib.AppendStr
import Derived.Lib.AtoiErrMem
import Derived.Lib.ConvBytes
import Derived.Lib.CutLaws
import Derived.Lib.Hide
import Derived.Lib.IndexBytes
import Derived.Lib.ItoaLen
import Derived.Lib.LaidTab
import Derived.Lib.OthersKept
import Derived.Lib.ParseIntB
import Derived.Lib.Repeat
import Derived.Lib.SlBytesConst
import Derived.MakeChecks
import Derived.Maps.AppendAt
import Derived.Maps.OwnSet
import Derived.Maps.RangeWalk
import Derived.OpenShut
import Derived.OrdersHeld
import Derived.ProofKit
import Derived.RegionTactic
import Derived.WalkKit
import Derived.WalkSpells
import Derived.Test.YtehkcnbodcdijaaGreatDoorCards
import Derived.Test.YtehkcnbodcdijaaGreatDoorTie
namespace Go.Proofs.YtehkcnbodcdijaaGreatDoor
set_option maxHeartbeats 8000000
set_option linter.all false
set_option maxRecDepth 100000
variable{ar:Prop}
open Go.RowKit Go.Lib Go.Maps Go.ChangeShapes Go.WideShapes Go.ChangeAt Go.Proofs.Tryz
variable{a b c d e f g h:Nat}{i j k l:List Nat}{m n o:World}{p q r s:Value}{t u v:List Value}{w x:TypeId}{y z:Nat→Option Nat}{A:Nat→List Nat}{B C:Int}{E F:Option Addr}{H I:Rat}{J:Nat→Nat}{K:Nat→Bool}{L:List Int}{N:Array Bool}{O:Option Nat}{Q:Act}{R S:Bool}{T:List UInt8}
def aK:=@List.mem_cons
def aL:=@Nat.le_refl
def aU:=@Nat.zero_le
def aV:=@Nat.le_trans
def aX:=@List.getElem?_eq_getElem
def a8:=@List.getElem_mem
def bD:=@List.length_append
def bE:=@List.mem_singleton
def bJ:=@List.not_mem_nil
def bO:=@List.mem_append
def bP:=@List.length_map
def b_:=@List.mem_map
def cy:=@Nat.lt_of_lt_of_le
def cA:=@Nat.lt_or_ge
def cO:=@List.length_take
def cT:=@List.length_cons
def cV:=@Bool.and_eq_true
def dl:=@Option.some.injEq
def dA:=@List.getElem?_cons_zero
def dD:=@List.take_of_length_le
def dK:=@List.getElem?_map
def dL:=@List.mem_range
def dX:=@List.getElem?_cons_succ
def d9:=@List.set_cons_zero
def eo:=@List.setIfInBounds_toArray
def ep:=@List.set_cons_succ
def er:=@Nat.mul_comm
def eA:=@Nat.pow_succ
def eE:=@List.mem_filter
def eG:=@List.getD_eq_getElem?_getD
def eH:=@List.mem_cons_self
def eK:=@Nat.mul_le_mul_right
def eR:=@List.getElem?_toArray
def eT:=@List.getElem?_eq_none
def fB:=@List.take_length
def fC:=@Nat.mod_lt
def fK:=@Nat.pow_le_pow_right
def fR:=@List.take_succ_eq_append_getElem
def fS:=@Nat.mul_assoc
def gc:=@List.length_singleton
def gh:=@Nat.mul_add
def gQ:=@List.mem_cons_of_mem
def gU:=@Ne.symm
def h_:=@Nat.mul_le_mul_left
def ib:=@Int.natAbs_natCast
def ic:=@List.nodup_cons
def iE:=@List.getElem_of_mem
def iP:=@List.pairwise_cons
def i7:=@List.length_range
def i9:=@Nat.min_eq_left
def jc:=@List.map_cons
def jk:=@List.append_assoc
def jK:=@List.drop_eq_getElem_cons
def jL:=@Nat.zero_add
def j4:=@Nat.eq_zero_or_pos
def j5:=@List.append_nil
def kD:=@Go.IntKind.wrap_u64
def kE:=@List.map_append
def kF:=@Bool.or_eq_true
def kG:=@List.take_zero
def kH:=@Nat.add_zero
def kW:=@List.map_congr_left
def kX:=@Int.toNat_natCast
def kZ:=@Nat.add_mul
def lF:=@Nat.mul_one
def lU:=@List.eq_nil_of_length_eq_zero
def lV:=@List.getElem?_range
def lW:=@Bool.eq_iff_iff
def lX:=@Nat.one_mul
def mP:=@List.length_filter_le
def mQ:=@Go.World.ownsRow_nil
def mS:=@List.mem_flatMap
def mU:=@List.any_eq_true
def mV:=@List.drop_zero
def mW:=@Nat.pow_add
def mX:=@Nat.le_succ
def nI:=@List.pairwise_iff_getElem
def nJ:=@List.mem_of_mem_take
def nK:=@List.cons_append
def nL:=@Nat.add_comm
def oD:=@List.getElem?_append_left
def oF:=@List.contains_iff_mem
def oG:=@Int.natCast_mul
def oH:=@Nat.succ_mul
def pM:=@List.mem_of_getElem?
def pN:=@List.getElem?_set
def pO:=@Rat.zero_add
def pQ:=@Go.RowKit.Below.trans
def qx:=@List.length_drop
def qy:=@List.filter_cons
def qB:=@Go.RowKit.Below.grown
def rz:=@List.drop_of_length_le
def rA:=@Nat.and_lt_two_pow
def rB:=@List.filter_append
def rD:=@List.pairwise_map
def rE:=@List.nodup_append
def rF:=@List.ext_getElem?
def rG:=@Bool.not_eq_true'
def rH:=@List.all_eq_true
def rI:=@Bool.not_eq_true
def rJ:=@Nat.le_of_lt
def rK:=@List.map_map
def rN:=@Nat.pow_one
def tG:=@UInt8.le_iff_toNat_le
def tH:=@List.take_append_drop
def tJ:=@List.take_add_one
def tK:=@List.nodup_range
def tL:=@List.nil_append
def tM:=@List.length_set
def uU:=@List.getElem?_eq_some_iff
def uV:=@List.flatMap_cons
def uW:=@Nat.mod_eq_of_lt
def uX:=@Nat.div_add_mod
def uY:=@List.length_nil
def uZ:=@Rat.add_assoc
def wQ:=@Array.getElem?_eq_none
def wR:=@List.find?_eq_none
def wS:=@List.foldl_append
def wT:=@List.find?_some
def wU:=@List.cons.injEq
def wV:=@Nat.mul_le_mul
def w_:=@Bool.or_false
def xc:=@Rat.add_zero
def xd:=@Int.le_refl
def xe:=@Go.RowKit.Below.refl
def yU:=@List.getElem?_append_right
def yV:=@List.mem_of_find?_eq_some
def yX:=@List.Pairwise.sublist
def yY:=@List.filter_sublist
def yZ:=@Nat.xor_lt_two_pow
def y4:=@Nat.two_pow_pos
def y5:=@List.foldl_cons
def y6:=@List.drop_drop
def y7:=@List.Perm.refl
def y8:=@Int.natAbs_mul
def y_:=@Nat.and_comm
def Bu:=@List.getElem?_replicate
def Bv:=@Nat.lt_of_le_of_lt
def Bw:=@List.mem_replicate
def Bx:=@List.map_replicate
def Ca:=@Go.Lib.cell_of_heap
def Cb:=@Go.IntKind.wrap_i64
def Cc:=@Int.natCast_ediv
def Ce:=@Nat.div_le_self
def Ci:=@Nat.add_assoc
def Cj:=@Nat.gcd_comm
def EM:=@List.pairwise_singleton
def EN:=@List.flatMap_append
def EO:=@List.getElem?_drop
def EP:=@List.getElem_take
def EQ:=@List.filter_congr
def ES:=@Nat.zero_testBit
def ET:=@List.getElem_map
def EU:=@Rat.intCast_mul
def EW:=@List.range_succ
def E0:=@List.sum_cons
def E1:=@List.map_take
def E2:=@Bool.not_true
def E4:=@Rat.add_comm
def E5:=@Nat.pow_zero
def E6:=@Nat.le_of_eq
def E7:=@List.map_set
def E9:=@Rat.mul_one
def Ia:=@Option.ne_none_iff_exists'
def Ib:=@Option.isSome_iff_exists
def Ic:=@List.drop_eq_nil_of_le
def Ie:=@Int.sign_eq_one_of_pos
def Ig:=@Go.Region.noSelect_spec
def Ih:=@Nat.pow_lt_pow_right
def Ii:=@List.replicate_succ'
def Ij:=@List.mem_of_mem_drop
def Ik:=@List.length_pos_iff
def Il:=@List.map_singleton
def Im:=@Nat.or_lt_two_pow
def Ip:=@Go.Region.free_spec
def Iq:=@Nat.mod_add_div
def Iw:=@Nat.testBit_or
def Ix:=@List.nodup_nil
def Iy:=@Int.mul_nonneg
def IA:=@Bool.false_or
def IC:=@Nat.zero_mul
def ID:=@Nat.mul_zero
def IE:=@Nat.mul_succ
def IG:=@Int.lt_or_le
def Mf:=@Array.getElem?_eq_some_iff
def Mg:=@Classical.byContradiction
def Mh:=@Array.size_setIfInBounds
def Mi:=@Nat.le_mul_of_pos_right
def Mj:=@List.countP_le_length
def Mk:=@Array.getElem?_modify
def Ml:=@List.filter_eq_self
def Mm:=@Go.RowKit.Below.heap_setCell
def Mo:=@Nat.lt_trichotomy
def Mp:=@Option.bind_some
def Mq:=@Nat.le_add_right
def Mr:=@Nat.div_eq_of_lt
def Mu:=@Nat.not_lt_zero
def Mv:=@Nat.le_add_left
def Mw:=@List.filter_nil
def My:=@List.take_take
def Mz:=@Go.IntWalk.i64_in
def MB:=@Bool.true_and
def ME:=@Rat.zero_mul
def MF:=@Nat.sub_self
def MH:=@Go.Addr.add_lit
def QM:=@List.take_append_of_le_length
def QN:=@List.idxOf_lt_length_iff
def QO:=@List.Pairwise.imp_of_mem
def QP:=@List.countP_cons_of_pos
def QQ:=@List.countP_cons_of_neg
def QR:=@List.getElem_cons_zero
def QS:=@Nat.div_lt_iff_lt_mul
def QT:=@List.set_append_right
def QU:=@List.length_replicate
def QV:=@Go.Lib.run_eql_slice_nil
def QW:=@Nat.eq_of_testBit_eq
def QX:=@Array.size_replicate
def QY:=@Nat.pow_le_pow_left
def QZ:=@List.take_succ_cons
def Q1:=@List.getElem_range
def Q5:=@Bool.false_eq_true
def Q6:=@Go.World.drewN_drewN
def Q7:=@List.any_eq_false
def Q8:=@Bool.eq_false_iff
def Q9:=@Int.natCast_emod
def Ra:=@UInt8.toNat.inj
def Rb:=@List.idxOf_cons
def Rc:=@List.any_append
def Ri:=@List.any_cons
def Rk:=@Bool.or_assoc
def Rm:=@Bool.and_true
def Rq:=@Nat.sub_zero
def Rs:=@Nat.ne_of_lt
def Rt:=@Nat.ne_of_gt
def Ru:=@Nat.lt_trans
def Rv:=@List.any_nil
def Ry:=@Bool.or_true
def RO:=@Rat.one_mul
def RP:=@Nat.gcd_rec
def Zg:=@Nat.mul_lt_mul_of_pos_right
def Zh:=@List.idxOf_lt_length_of_mem
def Zi:=@Int.sign_eq_neg_one_of_neg
def Zj:=@Go.MakeChecks.laidMetH_plain
def Zk:=@List.getElem_append_right
def Zl:=@Int.sign_eq_zero_iff_zero
def Zm:=@Array.getElem?_eq_getElem
def Zn:=@List.getElem_append_left
def Zo:=@List.find?_range_eq_some
def Zp:=@Nat.testBit_lt_two_pow
def Zq:=@List.filter_eq_nil_iff
def Zr:=@List.pairwise_flatMap
def Zs:=@List.length_mergeSort
def Zt:=@Bool.and_eq_false_iff
def Zu:=@List.pairwise_append
def Zv:=@BitVec.testBit_toNat
def Zw:=@Go.WideAt.sameKey_self
def Zx:=@List.replicate_zero
def Zy:=@List.length_reverse
def Zz:=@List.drop_succ_cons
def ZA:=@UInt8.toNat_ofNat'
def ZB:=@Nat.pos_of_ne_zero
def ZC:=@Nat.gcd_zero_right
def ZE:=@List.getElem?_take
def ZF:=@List.append_of_mem
def ZH:=@Rat.divInt_eq_div
def ZI:=@Nat.mul_left_comm
def ZJ:=@List.size_toArray
def ZK:=@List.getElem?_nil
def ZL:=@List.count_append
def ZM:=@Nat.min_le_right
def ZN:=@Nat.lt_succ_self
def ZO:=@Nat.le_of_not_lt
def ZP:=@List.flatMap_nil
def ZQ:=@List.drop_length
def ZR:=@List.drop_append
def ZW:=@Go.Oper.upon_value
def ZX:=@Nat.testBit_and
def ZY:=@Nat.min_le_left
def ZZ:=@List.sum_append
def Z1:=@Int.natCast_sub
def Z2:=@Int.natCast_add
def aib:=@List.set_eq_take_append_cons_drop
def aic:=@Array.all_eq_true_iff_forall_mem
def aid:=@List.dropLast_concat_getLast
def aie:=@Nat.testBit_two_pow_sub_one
def axn(h:ar:=by (simp only[aK,bJ,or_false];omega)):=h
def axo(h:ar:=by (rw[beq_eq_false_iff_ne];omega)):=h
def axp(h:ar:=by (unfold B9;omega)):=h
def axq(h:ar:=by decide+kernel):=h
def axr(h:ar:=by (have:=j.ae;unfold B9 at this⊢;omega)):=h
def axs(h:ar:=by (rw[HT.ae];unfold B9;omega)):=h
def axt(h:ar:=by (rw[ah,fA];exact fun _ h=>h)):=h
def axu(h:ar:=by (unfold maxLen;omega)):=h
def axv(h:ar:=by simpa using c):=h
def axw(h:ar:=by (rw[cO];omega)):=h
def axx(h:ar:=by simp [a]):=h
def axy(h:ar:=by (rw[kD];omega)):=h
def axz(h:ar:=by (constructor<;>intros<;>first|kernel_rfl|exact Nz Ok Ok)):=h
def axA(h:ar:=by (show w.heap.size<w.heap.size+1;omega)):=h
def axB(h:ar:=by simpa using a):=h
def axC(h:ar:=by exact bS.drew):=h
def axD(h:ar:=by exact HX.trans b):=h
def axE(h:ar:=by (have:=j.ae;unfold B9 at this;omega)):=h
def axF(h:ar:=by simpa using h):=h
def axG(h:ar:=by simpa using b):=h
def axH(h:ar:=by (simp only[bE];omega)):=h
def axI(h:ar:=by exact HX.drew):=h
def axJ(h:ar:=by (unfold ints;rw[bP])):=h
def axK(h:ar:=by simp [b]):=h
def axL(h:ar:=by (rw[bP];omega)):=h
def axM(h:ar:=by grind):=h
def axN(h:ar:=by (intro i a;simp only[aK,bJ,or_false] at a;omega)):=h
def axO(h:ar:=by simpa using e):=h
def axP(h:ar:=by simpa using d):=h
def axQ(h:ar:=by (rintro rfl;exact absurd w Od)):=h
def axR(h:ar:=by (have:=s.ae;omega)):=h
def axS(h:ar:=by (have:=h.1.head;unfold B9 at this;exact this)):=h
def axT(h:ar:=by (rw[show(48:UInt8).toNat=48 from rfl];omega)):=h
def axU(h:ar:=by (show w.heap.size+1<w.heap.size+1+1;omega)):=h
def axV(h:ar:=by (rw[ah,HT.ae,rB,qy,hq];simp)):=h
def axW(h:ar:=by (rw[<-oG];omega)):=h
def axX(h:ar:=by simp [results,vE,go_sem]):=h
def axY(h:ar:=by (rw[b.ae];unfold B9;omega)):=h
def axZ(h:ar:=by (rw[A.ae];unfold B9;omega)):=h
def ax0(h:ar:=by (show g+1≠g+1+1;omega)):=h
def ax1(h:ar:=by simp [Fo.vars,h]):=h
def ax2(h:ar:=by (rw[<-eA];congr 1;omega)):=h
def ax3(h:ar:=by simp [c]):=h
def ax4(h:ar:=by (rw[rM];omega)):=h
def ax5(h:ar:=by (rw[Cb];omega)):=h
def ax6(h:ar:=by (constructor<;>intros<;>kernel_rfl)):=h
def ax7(h:ar:=by simp [ByteArray.size]):=h
def ax8(h:ar:=by simp [results,results233,go_sem]):=h
def ax9(h:ar:=by simp [results,results175,go_sem]):=h
def ax'(h:ar:=by (show g≠g+1+1;omega)):=h
def ax_(h:ar:=by simp [results,results32,go_sem]):=h
def aya(h:ar:=by (rw[h];rfl)):=h
def ayb(h:ar:=by (rw[bne_iff_ne];omega)):=h
def ayc(h:ar:=by (rw[beq_iff_eq];omega)):=h
def ayd(h:ar:=by simp [ints]):=h
def aye(h:ar:=by (rw[a];omega)):=h
def ayf(h:ar:=by simp [Fo.vars]):=h
def ayg(h:ar:=by (obtain⟨_,_,rfl,_⟩:=h;rfl)):=h
def ayh(h:ar:=by simpa using f):=h
def ayi(h:ar:=by simp [d]):=h
def ayj(h:ar:=by (rw[aX gp] at hr;injection hr)):=h
def ayk(h:ar:=by (simp [ByteArray.size];omega)):=h
def ayl(h:ar:=by (have:=yD.ae;omega)):=h
def aym(h:ar:=by (unfold VS.less VS.one;simp)):=h
def ayn(h:ar:=by (rw[decDigits_length];omega)):=h
def ayo(h:ar:=by (rw[ah,GQ];exact fun _ h=>h)):=h
def ayp(h:ar:=by simp [Fo.vars,i]):=h
def ayq(h:ar:=by (rw[er,<-eA];congr 1;omega)):=h
def ayr(h:ar:=by (have:=V.ae;omega)):=h
def ays(h:ar:=by (have:=G.ae;omega)):=h
def ayt(h:ar:=by exact HX.trans c):=h
def ayu(h:ar:=by (rw[Ii];simp)):=h
def ayv(h:ar:=by simp [s]):=h
def ayw(h:ar:=by simp [g]):=h
def ayx(h:ar:=by (rw[bne_iff_ne];exact i)):=h
def ayy(h:ar:=by (rw[<-mW];congr 1;omega)):=h
def ayz(h:ar:=by (have:=q.den_pos;omega)):=h
def ayA(h:ar:=by simpa using i):=h
def ayB(h:ar:=by (rw[e];rfl)):=h
def ayC(h:ar:=by (simp only[f9];omega)):=h
def ayD(h:ar:=by (rw[y_];exact rA _ d)):=h
def ayE(h:ar:=by (rw[pS];omega)):=h
def ayF(h:ar:=by simp [e]):=h
def ayG(h:ar:=by (rw[jW.ae];exact AA)):=h
def ayH(h:ar:=by simp [Fo.homes,k]):=h
def ayI(h:ar:=by simp [Fo.homes,j]):=h
def ayJ(h:ar:=by (rw[h.len];exact r)):=h
def ayK(h:ar:=by (rw[h.len];exact m)):=h
def ayL(h:ar:=by (rw[ah,LA.ae];simp)):=h
def ayM(h:ar:=by (have:=HY.ae;omega)):=h
def ayN(h:ar:=by (unfold jA;decide)):=h
def ayO(h:ar:=by (rw[bD];rfl)):=h
def ayP(h:ar:=by (have:=y4 g;omega)):=h
def ayQ(h:ar:=by (rw[sU];exact sM)):=h
def ayR(h:ar:=by (rw[sU];exact d6)):=h
def ah(p:Prop):Prop:=p
def ah.ae{p:Prop}(h:ah p):p:=h
def af{p:Prop}(h:p):ah p:=h
def aW{p:Prop} [Decidable p](h:¬p:=by(omega)):decide p=false:=decide_eq_false h
def fN{p:Prop} [Decidable p](h:p:=by(omega)):decide p=true:=decide_eq_true h
abbrev aQ:=Option Addr
abbrev au:=World
abbrev av(x:Int):Value:= .int .i64 x
abbrev aM(t:List UInt8):Value:= .string ⟨t.toArray⟩
abbrev aD(b o:Nat):Addr:=⟨b,o,none⟩
abbrev dV(b o:Nat):Option Addr:=some ⟨b,o,none⟩
abbrev aI(b o:Nat):Value:= .pointer (some ⟨b,o,none⟩)
abbrev aG(b o n c:Nat):Value:= .slice (some ⟨b,o,none⟩) n c
abbrev aA(w:World)(b o:Nat)(v:Value):Prop:=w.cell? ⟨b,o,none⟩=some v
instance av_{α:Type}:CoeOut (List α) Nat:=⟨List.length⟩
set_option maxRecDepth 100000
def m0(h:ar:=by
 obtain⟨l,h,rfl,rfl,hlh,hhB,HL,HH,yj⟩:=hrel;obtain⟨b0,b1⟩:=(Hz.ext yj).two;by_cases jU:l<h
 ·obtain⟨md,WD⟩:∃md:Nat,md=(l+h+1)/2:=⟨_,rfl⟩;have xZ:((l:Int)+h+1)/2=(md:Int):=Om;have awt:l<md:=Om;have atE:md<=h:=Om;clear WD;go_wp2_with fail
  refine(aaL _ Y md wr (Gi.ext yj) FB Om).mono ?_;rintro e w6 ⟨v6,rfl,qT,jS⟩;obtain⟨A6,m6,c6,rfl,WE,El⟩:=qT.parts;clear WE;have Ez:ah (Fit (Y*md)):=aeW LL (by rw[er];exact eK _ (rJ (show md<B9 by unfold B9;omega)));have dR:=af (yj.trans jS);clear jS qT b0 b1;go_wp2_with fail
  refine(abL El (Hg.ext dR) Ez Ot).mono ?_;rintro e w7 ⟨rfl,VX,rfl⟩;have f_:ah (Ext wo (w6.drewN VX)):=dR.drewN VX;generalize w6.drewN VX=w7 at*;by_cases hc:Y*md<=R1
  ·have hcm:decide (eM (Y*md) R1<=0)=true:=by unfold eM;split;rfl;rw[if_neg Om];rfl
   have HC:=af hc;generalize eM (Y*md) R1=cm at*;clear hc;go_wp2;go_roundw;exact⟨md,h,rfl,rfl,atE,hhB,HC,HH,f_⟩;simp [RowKit.intOf];omega
  ·have hcm:decide (eM (Y*md) R1<=0)=false:=by rw[NS Om];rfl
   have HC:ah (R1<Y*((md - 1)+1)):=by rw[ah,Nat.sub_add_cancel Om];omega
   generalize eM (Y*md) R1=cm at*;clear hc;go_wp2;go_roundw;exact⟨l,md - 1,rfl,congrArg _ Om,by omega,by omega,HL,HC,f_⟩;simp [RowKit.intOf];omega
 ·obtain rfl:l=h:=Om;have Vx:=af (DF.ext yj);have e3:List.replicate (k+1) 0++q=List.replicate k 0++(0::q):=ayu;have aqQ:wr.cell? (aD (w.heap.size+1+1+1+1) k)=some (av 0):=(by have:=aoB (i:=k) Vx Oc;rw[this,e3,Jc _ _ _ _ Ou];rfl)
  have Vb:=Vx.frozen k;have JZ:=af (amG (i:=k) (x:=l) Vx (z:=(l:Int)) rfl);rw[e3,CU _ _ _ _ _ Ou] at JZ;have OP:ah (Below (w.heap.size+1+1+1+1) W (wr.setCell (aD (w.heap.size+1+1+1+1) k) (av (l:Int)))):=(DG.trans (yj.mono Om)).setCell (p:=aD (w.heap.size+1+1+1+1) k) (aL _) _;have ahY:=af ((LC.ext yj).far (p:=aD (w.heap.size+1+1+1+1) k) (by show w.heap.size+1+1+1+1<w.heap.size+1+1+1+1+1;omega) (av (l:Int)));have Vs:ah (Ext w (wr.setCell (aD (w.heap.size+1+1+1+1) k) (av (l:Int)))):=pQ HX (OP.mono Om);have XI:ah (val (a.drop k)=val (l::q)*Y+(R1 - Y*l)):=by rw[ah,ahT.ae];exact anK Om HV (by rw[<-ahT.ae];exact HL)
  have Xh:R1 - Y*l<Y:=by have h1:=HH.ae;have h2:=HL.ae;rw[gh,lF] at h1;omega
  have ah9:=af (HDQ.cons (show l<B9 from hhB));have ahU:ah ((l::q).length=a.length - k):=by rw[ah,cT,Er.ae];omega
  clear e3 jU;rcases j4 l with rfl|hl0
  ·rw[ID,Rq] at XI Xh;go_wp2;go_roundw;exact⟨k,R1,0::q,by omega,congrArg _ Om,ahY,Xh,ah9,ahU,XI,JZ,OP⟩;simp [RowKit.intOf]
  ·go_upto_region 20 with fail
   clear aqQ Vb;have auL:=af (Yb.ext Vs);have Zc:=af (BB.below OP Om);generalize wr.setCell (aD (w.heap.size+1+1+1+1) k) (av (l:Int))=w5 at*;obtain⟨b0,b1⟩:=Zc.two;go_wp2_with fail
   refine(aaL _ Y l w5 auL FB Om).mono ?_;rintro e w6 ⟨v6,rfl,qT,jS⟩;obtain⟨A6,m6,c6,rfl,WE,El⟩:=qT.parts;clear WE qT;go_wp2_with fail;obtain⟨AN,mN,cN,eN,hNI,hNF⟩:=ahY.ae;injection eN with e1 e2 e3;subst e1 e2 e3;refine(ajf (hNI.ext jS) El Ot (Ot.le HL) HL).mono ?_;rintro e w7 ⟨A7,l7,c7,rfl,aho,ahk,hd7,qb,WG,Kh,vK⟩;have f_:=af (jS.trans vK);have atq:w.heap.size+1+1+1+1+1<=w6.heap.size:=by have:=JZ.lt;have:=jS.size;omega
   clear hNI hNF jS;go_wp2_with fail;refine(R2 A7 c7 false l7 w7 aho hd7 qb WG).mono ?_;rintro e w8 ⟨b8,n8,rfl,o5,fp⟩;have Qd:=af o5.nat;rw[EY,Kh] at Qd;have auN:ah (p8 w8 (w.heap.size+1+1+1+1+1) (.slice A7 n8 c7) (R1 - Y*l)):=⟨A7,n8,c7,rfl,Qd,fun ad h=>aV atq (ahk ad h)⟩;have lz:=af (f_.trans fp);have hfd:=T7 b8 A7 n8 c7;have aux:=af (JZ.ext lz);have avq:ah (Below (w.heap.size+1+1+1+1) W w8):=OP.trans (lz.mono (by have:=JZ.lt;omega));clear aho ahk hd7 qb WG Kh vK fp o5 b0 b1;go_wp2;go_roundw;exact⟨k,R1 - Y*l,l::q,by omega,congrArg _ Om,auN,Xh,ah9,ahU,XI,aux,avq⟩;simp [RowKit.intOf]):=h
def m1(h:ar:=by
 have dC:(l2.length+1)*8<=140737488355328:=Om;have hw:wo.heap.size<=wr.heap.size:=mJ.zz;obtain⟨m,z8⟩:∃m,l9.length=m:=⟨_,rfl⟩;have HM:=af z8;rw[z8] at hb0 hm n_ sQ jU lT mJ;clear z8;go_wp2_with (at_builtin;refine gf rfl _ _ 22 rfl wo.heap.size jo _ _ _ rfl HR.ae #[av m] 1 1 rfl rfl rfl dC hw ?_)
 intro v' w5 ny WX _;have O5:=af (iF (R:=dw) (x:=(m:Int)) cJ Oe HR HC rfl ny WX);have S5:=af (mJ.ahF HQ GM (aL _) HR WX);obtain⟨A5,c5,x5,rfl,_,_,_,_⟩:=O5.parts;rw[bD,gc] at O5⊢;clear ny WX hb0 dC hw;go_upto_region 17 with fail
 obtain⟨tn,uj⟩:∃tn,[97]++ [UInt8.ofNat (97+m)]=tn:=⟨_,rfl⟩;have LT:=af (fun w'=>R8 [97] m w' Om Ou);rw[uj] at LT;have G_:=af uj;clear uj;obtain⟨S,fA⟩:∃S:World->Prop,S=fun w'=>aA w' (w.heap.size+1) 0 (.slice Aa m ca):=⟨_,rfl⟩;have bK:ah (∀w',S w'->aA w' (w.heap.size+1) 0 (.slice Aa m ca)):=axt;have cF:ah (∀w' l,aq w' (w.heap.size+1) kM (.slice Aa m ca::l)->S w'):=by rw[ah,fA];exact fun w' l h=>h.aF 0
 clear fA;have S5:=af (S5.ext (aB w5).drew);have O5:=af (O5.ext cJ (aB w5).drew);have aJ:ah (S w5.drew):=cF _ _ S5.blk;refine cG (S:=S) (T:=fun j=>decide (13<=j)) Ok ?_;generalize w5.drew=wd at*;refine ax 0 59 ?_;refine ax 1 60 ?_;refine ax 2 61 ?_;refine ax 3 62 ?_;refine ax 4 63 ?_;refine ax 6 65 ?_;refine FJ 5 7 Ok ?_ ?_
 ·skip
  intro o ho K hK;simp only[eR,dX,dA,dl] at ho;subst ho;go_simp;refine(LT _).mono ?_;rintro e wx ⟨rfl,hx⟩;have S5:=af (S5.ext hx);have O5:=af (O5.ext cJ hx);refine hK.ae _ _ (fun _=>cF _ _ S5.blk) ?_;refine jM 7 Ok ?_;intro o ho K hK;simp only[eR,dX,dA,dl] at ho;subst ho;go_simp;refine hK.ae _ _ (fun _=>cF _ _ (S5.blk.ext ((aB _).alloc _))) ?_;have WS:g<_:=cy hgo S5.zz;refine aR fun WZ cI BZ=> ?_;have S5:=af (S5.ext cI);have O5:=af (O5.ext cJ cI);refine jM 8 Ok ?_;intro o ho K hK;simp only[eR,dX,dA,dl] at ho;subst ho;go_simp;refine(SD g _ [1,2,2,3] _ S5.src BZ Om Od Od).mono ?_;rintro e wx ⟨u,hu,rfl,hs,ho⟩;have S5:=af (S5.call HQ ho hs);have O5:=af (O5.only cJ ho hgo Oe);have xW:1<=u/\u<=3:=by simp only[aK,bJ,or_false] at hu;omega
  clear hs ho hu;refine hK.ae _ _ (fun _=>cF _ _ S5.blk) ?_;have aJ:=af (cF _ _ S5.blk);refine ax 9 68 ?_;refine aO 10 ?_;intro K hK;go_simp;refine hK.ae _ _ (fun _=>cF _ _ (S5.blk.ext ((aB _).alloc _))) ?_;refine aR fun WZ cI BX=> ?_;have S5:=af (S5.ext cI);have O5:=af (O5.ext cJ cI);clear hK;refine jM 11 Ok ?_;intro o ho K hK;simp only[eR,dX,dA,dl] at ho;subst ho;refine nV rfl ?_;obtain⟨xq,RQ,CQ⟩:=S5.oa;rw[HM.ae] at RQ;have dC:(m+1)*24<=140737488355328:=Om;refine rU _ _ 26 rfl W.heap.size acB _ _ _ rfl RQ _ [aM tn,av u] BX.ae 1 1 rfl rfl rfl dC S5.sz ?_;intro v' wq iq kS nA;obtain⟨Aq,cq,rfl,_,_,_⟩:=eL iq;have S6:=af (S5.ahH HQ (x:=(tn,u)) HM RQ CQ iq kS);have O6:ah (bG aS 1 dw wo.heap.size wq (.slice A5 (l2.length+1) c5) (l2++ [(m:Int)])):=by obtain⟨ys,q1,q2⟩:=O5.ae;exact⟨ys,xi q1 kS (IP RQ q1 Od),q2⟩
  clear RQ CQ iq kS nA BX;simp only[Act.put,eo,d9,ep];refine hK.ae _ _ (fun _=>cF _ _ S6.blk) ?_;have aJ:=af (cF _ _ S6.blk);refine ax 12 71 ?_;have hc0:=S6.blk.aF 0;have km:=S6.blk.frozen 0;obtain⟨W7,iM,S7,o_⟩:=S6.put HQ 0 (.slice Aq (m+1) cq);have kT:=af iM;have O7:=af (O6.only cJ o_ Om Oe);clear iM hK;refine aO 13 ?_;intro K hK;go_simp;refine hK.ae _ _ Oe ?_;rw[kT.ae];refine bY Ok ?_;clear hc0 km o_ hK;go_wp2_with fail
  go_roundw;exact⟨l2++ [(m:Int)],l9++ [(tn,u)],.slice Aq (m+1) cq,k2 - 1,by rw[bD,HM.ae,gc];omega,by rw[bD,HM.ae,gc];omega,by rw[bD,gc];omega,by omega,by go_num,(by have h:=QA.snoc xW.1 xW.2;rw[HM.ae,show [97,UInt8.ofNat (97+m)]= [97]++ [UInt8.ofNat (97+m)] from rfl,G_.ae] at h;exact h),by rw[bD,HM.ae,gc];exact lT.snoc,O7,S7⟩;simp [Uv];omega
 ·skip
  intro o ho K hK;simp only[eR,dX,dA,dl] at ho;subst ho;go_simp;refine hK.ae _ _ (fun _=>cF _ _ (S5.blk.ext ((aB _).alloc _))) ?_;have WS:g<_:=cy hgo S5.zz;refine aR fun WZ cI BZ=> ?_;have S5:=af (S5.ext cI);have O5:=af (O5.ext cJ cI);refine jM 5 Ok ?_;intro o ho K hK;simp only[eR,dX,dA,dl] at ho;subst ho;go_simp;refine(LT _).mono ?_;rintro e wx ⟨rfl,hx⟩;have BZ:=af (BZ.ext (hx));have S5:=af (S5.ext hx);have O5:=af (O5.ext cJ hx);refine hK.ae _ _ (fun _=>cF _ _ S5.blk) ?_;refine jM 8 Ok ?_;intro o ho K hK;simp only[eR,dX,dA,dl] at ho;subst ho;go_simp;refine(SD g _ [1,2,2,3] _ S5.src BZ Om Od Od).mono ?_;rintro e wx ⟨u,hu,rfl,hs,ho⟩;have S5:=af (S5.call HQ ho hs);have O5:=af (O5.only cJ ho hgo Oe);have xW:1<=u/\u<=3:=by simp only[aK,bJ,or_false] at hu;omega
  clear hs ho hu;refine hK.ae _ _ (fun _=>cF _ _ S5.blk) ?_;have aJ:=af (cF _ _ S5.blk);refine ax 9 68 ?_;refine aO 10 ?_;intro K hK;go_simp;refine hK.ae _ _ (fun _=>cF _ _ (S5.blk.ext ((aB _).alloc _))) ?_;refine aR fun WZ cI BX=> ?_;have S5:=af (S5.ext cI);have O5:=af (O5.ext cJ cI);clear hK;refine jM 11 Ok ?_;intro o ho K hK;simp only[eR,dX,dA,dl] at ho;subst ho;refine nV rfl ?_;obtain⟨xq,RQ,CQ⟩:=S5.oa;rw[HM.ae] at RQ;have dC:(m+1)*24<=140737488355328:=Om;refine rU _ _ 26 rfl W.heap.size acB _ _ _ rfl RQ _ [aM tn,av u] BX.ae 1 1 rfl rfl rfl dC S5.sz ?_;intro v' wq iq kS nA;obtain⟨Aq,cq,rfl,_,_,_⟩:=eL iq;have S6:=af (S5.ahH HQ (x:=(tn,u)) HM RQ CQ iq kS);have O6:ah (bG aS 1 dw wo.heap.size wq (.slice A5 (l2.length+1) c5) (l2++ [(m:Int)])):=by obtain⟨ys,q1,q2⟩:=O5.ae;exact⟨ys,xi q1 kS (IP RQ q1 Od),q2⟩
  clear RQ CQ iq kS nA BX;simp only[Act.put,eo,d9,ep];refine hK.ae _ _ (fun _=>cF _ _ S6.blk) ?_;have aJ:=af (cF _ _ S6.blk);refine ax 12 71 ?_;have hc0:=S6.blk.aF 0;have km:=S6.blk.frozen 0;obtain⟨W7,iM,S7,o_⟩:=S6.put HQ 0 (.slice Aq (m+1) cq);have kT:=af iM;have O7:=af (O6.only cJ o_ Om Oe);clear iM hK;refine aO 13 ?_;intro K hK;go_simp;refine hK.ae _ _ Oe ?_;rw[kT.ae];refine bY Ok ?_;clear hc0 km o_ hK;go_wp2_with fail
  go_roundw;exact⟨l2++ [(m:Int)],l9++ [(tn,u)],.slice Aq (m+1) cq,k2 - 1,by rw[bD,HM.ae,gc];omega,by rw[bD,HM.ae,gc];omega,by rw[bD,gc];omega,by omega,by go_num,(by have h:=QA.snoc xW.1 xW.2;rw[HM.ae,show [97,UInt8.ofNat (97+m)]= [97]++ [UInt8.ofNat (97+m)] from rfl,G_.ae] at h;exact h),by rw[bD,HM.ae,gc];exact lT.snoc,O7,S7⟩;simp [Uv];omega):=h
def m2(h:ar:=by
 have HI:=af CI;have HF:=af hF;have HW:=af hC;have n_:c<=9223372036854775807:=hm;have KN:(l.map (fun v:aC=>Value.string ⟨v.toArray⟩)++rest).length=(l.map (fun v:aC=>Value.string ⟨v.toArray⟩)++rest).length:=rfl;clear CI hF hC AC;generalize hx0:l.map (fun v:aC=>Value.string ⟨v.toArray⟩)++rest=uh at*;have bS:=af hx0;have hL0:l<=uh.length:=by rw[<-hx0,bD,bP];omega
 clear hx0 KN;rcases qY:(List.range l).find? pr with _|k0
 ·have hz:je pr l= -1:=by unfold je;rw[qY]
  have mF:l.filter (fun v=> !Q v)=l:=Ml.2 fun v hv=>by obtain⟨k,hk,rfl⟩:=iE hv;have h1:=wR.1 qY k (by simpa using hk);rw[DW k hk] at h1;simpa using h1
  rw[hz] at HI;have uM:=af mF;clear qY hz DT DW mF;go_enter func233,ntmps233;go_wp2_with fail
  refine HI.mono ?_;rintro e w' ⟨rfl,hI,AJ⟩;have nH:=af hI;have yL:=af AJ;clear hI AJ;go_wp2;exact bodyPost_ret (v:= .slice (some ⟨g,0,none⟩) l c) ax8 rfl ⟨by rw[uM.ae],nH,rest,by rw[uM.ae,bS.ae];exact yL.ae⟩
 ·have uu:k0<l.length:=by simpa using yV qY
  have hz:je pr l.length=(k0:Int):=by unfold je;rw[qY]
  have ur:Q l[k0]=true:=by rw[<-DW k0 uu];exact wT qY
  have hb0:∀k (hk:k<l.length),k<k0->Q l[k]=false:=fun k hk hlt=>by have h1:=(Zo.1 qY).2.2 k hlt;rw[DW k hk] at h1;simpa using h1
  have km:(l.take (k0+1)).filter (fun v=> !Q v)=l.take k0:=(by rw[fR uu,rB,qy,ur];simp only[E2,Q5,if_false,Mw,j5];refine Ml.2 fun v hv=> ?_;obtain⟨k,hk,rfl⟩:=iE hv;rw[cO] at hk;rw[EP,hb0 k Om Om];rfl);have hne:((k0:Int)== -1)=false:=beq_eq_false_iff_ne.2 Om;rw[hz] at HI;have LM:=af km;clear qY hz DT DW ur hb0 km h0 hB;go_enter func233,ntmps233;go_wp2_with fail
  refine HI.mono ?_;rintro e w' ⟨rfl,hI,AJ⟩;have nH:=af hI;have yL:=af AJ;clear hI AJ;go_upto_region 5 with fail
  have LY:ah (uh.take k0=((l.take (k0+1)).filter fun v=> !Q v).map (fun v:aC=>Value.string ⟨v.toArray⟩)):=(by rw[ah,LM.ae,<-bS.ae,QM axL,E1]);have LG:ah (((l.take (k0+1)).filter fun v=> !Q v)=k0):=by rw[ah,LM.ae,cO];omega
  go_loopw [5,6,7] (fun v5 v6 _ wr=>∃(i j:Nat) (zs:List Value),i<j/\j<=l/\v5= .int .i64 i/\v6= .int .i64 j/\zs.length=uh/\ah (zs.take i=((l.take j).filter fun v=> !Q v).map (fun v:aC=>Value.string ⟨v.toArray⟩))/\ah (((l.take j).filter fun v=> !Q v)=i)/\ah (zs.drop j=uh.drop j)/\ah (aq wr g bC zs)/\ah (I wr)) (fun _ v6 _ _=>l - (RowKit.intOf v6).toNat)
  exact⟨k0,k0+1,uh,by omega,by omega,rfl,by go_num,rfl,LY,LG,rfl,yL,nH⟩;obtain⟨i,j,zs,WO,kR,rfl,rfl,hzl,HA,HL,HD,HB,HI⟩:=hrel;by_cases hlt:j<l
  ·have O1:zs[j]? =some ((fun v:aC=>Value.string ⟨v.toArray⟩) l[j]):=by
    have h1:(zs.drop j)[0]? =(uh.drop j)[0]?:=by rw[HD.ae]
    rw[EO,EO] at h1;rw[show zs[j]? =uh[j]? from h1,<-bS.ae,oD (by rw[bP];exact hlt),dK,aX hlt];rfl
   have CF:=af (HF _ _ _ HI (a8 hlt) HB);have D9:=HB.cell O1;have HT:ah (l.take (j+1)=l.take j++ [l[j]]):=fR hlt;have LQ:ah (∀ys:List Value,ys.drop j=uh.drop j->ys.drop (j+1)=uh.drop (j+1)):=fun ys h=>by have:=congrArg (List.drop 1) h;rwa[y6,y6] at this
   generalize l[j]=v at*;have hji:(0:Int)<=(j:Int):=Om;clear O1;go_wp2_with fail
   refine CF.mono ?_;rintro e w2 ⟨rfl,KP,AH⟩;have uL:=af KP;have iN:=af AH;clear KP AH D9;cases hq:Q v with
   |true=>have ow:ah ((l.take (j+1)).filter (fun v=> !Q v)=(l.take j).filter fun v=> !Q v):=axV;go_wp2;go_roundw;exact⟨i,j+1,zs,by omega,by omega,rfl,by go_num,hzl,by rw[ow.ae];exact HA,by rw[ow.ae];exact HL,LQ.ae _ HD,iN,uL⟩;simp [RowKit.intOf];omega
   |false=>
    have ow:ah ((l.take (j+1)).filter (fun v=> !Q v)=((l.take j).filter fun v=> !Q v)++ [v]):=axV;have Px:i<zs.length:=Om;have GJ:=iN.cell (aX Px);have qY:=iN.frozen i;obtain⟨W',hW',B7,K7,N7⟩:=fM (i:=i) iN ((fun v:aC=>Value.string ⟨v.toArray⟩) v);have yE:=af (HW _ _ uL N7);have Ej:=af hW';have Lh:=af (abG (v:=(fun v:aC=>Value.string ⟨v.toArray⟩) v) Px);have qq:ah ((zs.set i ((fun v:aC=>Value.string ⟨v.toArray⟩) v)).drop j=zs.drop j):=List.drop_set_of_lt WO;generalize zs[i]=old at*;clear hW' K7 N7;go_upto_region 10 with fail
    rw[Ej.ae];go_wp2;go_roundw;exact⟨i+1,j+1,_,by omega,by omega,by go_num,by go_num,by rw[tM];exact hzl,by rw[ah,Lh.ae,HA.ae,ow.ae,kE];rfl,by rw[ah,ow.ae,bD,HL.ae];rfl,LQ.ae _ (qq.trans HD),B7,yE⟩;simp [RowKit.intOf];omega
  ·have Ku:j=l.length:=Om;subst Ku;have d1:decide ((l.length:Int)<(l.length:Int))=false:=aW;have tD:ah (zs.take i=(l.filter fun v=> !Q v).map (fun v:aC=>Value.string ⟨v.toArray⟩)):=by have h:=HA.ae;rw[fB] at h;exact h
   have th:ah ((l.filter fun v=> !Q v)=i):=by have h:=HL.ae;rw[fB] at h;exact h
   obtain⟨zs',AJ,atj,ati,Xk⟩:=SU (List.replicate (l - i) (.string ⟨#[]⟩:Value)) (o:=i) HB;have jE:∀ty,(Builtin.clear_ #[nS] ty #[.slice (some ⟨g,i,none⟩) (l - i) (c - i)]).run prog wr= .ok (.tuple #[]) (wr.setCells g i (List.replicate (l - i) (.string ⟨#[]⟩:Value))):=fun ty=>alx wr ty g i (l - i) (c - i) Om (fun k hk=>by rw[HB.cell (aX (show i+k<zs.length by omega))];rfl) (fun k hk=>HB.frozen _);have yL:=af AJ;have Hf:=af Xk;have nH:=af (HW _ _ HI Xk);clear AJ Xk;go_wp2_with (simp only[jE])
   exact bodyPost_ret (v:= .slice (some ⟨g,0,none⟩) i c) ax8 rfl ⟨by rw[th.ae],nH,zs'.drop i,by rw[<-tD.ae,<-ati,tH];exact yL.ae⟩):=h
def m3(h:ar:=by
 go_upto_region 18 with fail
 obtain⟨tn,uj⟩:∃tn,[114]++ [UInt8.ofNat (97+i)]=tn:=⟨_,rfl⟩;have LT:=af (fun w'=>R8 [114] i w' Om Ou);rw[uj] at LT;have G_:=af uj;clear uj;have Vh:1<=l9.length:=Om;have d_:ah (IL wr (.slice Al l2.length cl) l2):=ey.ls;have jW:ah (r_ l9.length (ay++ [(tn,l2)])):=(by have h:=r_.snoc (gC.mono (by rw[A_.ae];exact sQ)) (x:=l2) (fun e=>hl0 ayB) lT.vJ lT.ql;rw[jH.ae,show [114,UInt8.ofNat (97+i)]= [114]++ [UInt8.ofNat (97+i)] from rfl,G_.ae] at h;exact h)
 have XL:ah (Ol l9.length (ay++ [(tn,l2)])):=fun a ha=>by
  rcases cA a n0 with h|h
  ·obtain⟨r,hr,h'⟩:=XM a (by rw[A_.ae];exact h);exact⟨r,bO.2 (.inl hr),h'⟩
  ·exact⟨_,bO.2 (.inr (bE.2 rfl)),lT.all a h ha⟩
 clear hb0;have iu:=af (mJ.ae).NW;have hb1:=iu.blk.aF 1;go_upto_region 20 with fail
 obtain⟨S,fA⟩:∃S:World->Prop,S=fun w'=>aA w' (w.heap.size+1) 1 (.slice A1 i c1):=⟨_,rfl⟩;have bK:ah (∀w',S w'->aA w' (w.heap.size+1) 1 (.slice A1 i c1)):=axt;have cF:ah (∀w' x l,aq w' (w.heap.size+1) kM (x:: .slice A1 i c1::l)->S w'):=by rw[ah,fA];exact fun w' x l h=>h.aF 1
 clear fA hb1;have iu:=af (iu.ext (aB wr).drew);have aJ:ah (S (wr).drew):=cF _ _ _ iu.blk;refine cG (S:=S) (T:=fun j=>decide (9<=j)) Ok ?_;generalize(wr).drew=wd at*;refine ax 0 76 ?_;refine ax 1 77 ?_;refine ax 2 78 ?_;refine ax 4 80 ?_;refine aO 3 ?_;intro K hK;go_simp;refine(LT _).mono ?_;rintro e wx ⟨rfl,hx⟩;have iu:=af (iu.ext hx);refine hK.ae _ _ (fun _=>cF _ _ _ iu.blk) ?_;clear hK hx;have aJ:=af (cF _ _ _ iu.blk);refine ax 5 81 ?_;refine aO 6 ?_;intro K hK;go_simp;refine hK.ae _ _ (fun _=>cF _ _ _ (iu.blk.ext ((aB _).alloc _))) ?_;refine aR fun WZ cI BX=> ?_;have iu:=af (iu.ext cI);clear hK;refine jM 7 Ok ?_;intro o ho K hK;simp only[eR,dX,dA,dl] at ho;subst ho;refine nV rfl ?_;obtain⟨xq,RQ,CQ⟩:=iu.ol;rw[jH.ae] at RQ;have dC:(i+1)*40<=140737488355328:=Om;refine rU _ _ 27 rfl W.heap.size abO _ _ _ rfl RQ _ [aM tn,.slice Al l2.length cl] BX.ae 1 1 rfl rfl rfl dC iu.sz ?_;intro v' wq iq kS nA;obtain⟨Aq,cq,rfl,_,_,_⟩:=eL iq;have S6:=af (iu.ahE HQ (x:=(tn,l2)) jH RQ CQ d_ iq kS);clear RQ CQ iq kS nA BX;simp only[Act.put,eo,d9,ep];refine hK.ae _ _ (fun _=>cF _ _ _ S6.blk) ?_;have aJ:=af (cF _ _ _ S6.blk);refine ax 8 84 ?_;have hc0:=S6.blk.aF 1;have km:=S6.blk.frozen 1;obtain⟨W7,iM,S7,o_⟩:=S6.put HQ 1 (.slice Aq (i+1) cq);have kT:=af iM;clear iM hK;refine aO 9 ?_;intro K hK;go_simp;refine hK.ae _ _ Oe ?_;rw[kT.ae];refine bY Ok ?_;clear hc0 km o_ hK;go_wp2_with fail
 go_roundw;exact⟨i+1,_,_,l9,ay++ [(tn,l2)],_,by omega,by go_num,by rw[bD,jH.ae];rfl,n_,fun _=>Vh,QA,jW,XL,S7⟩;simp [RowKit.intOf];omega):=h
def m4(h:ar:=by
 have dZ:p.length<=1:=by rw[<-hp];decide
 rw[hp] at tC AY;clear hp;go_loopw [4,5] (fun v4 _ wr=>∃m:Nat,m<=n/\v4=av ((m:Int) - 1)/\ah (IsBuilder tB t8 (w.heap.size+1) (w.heap.size+1) (byteCells (p++texts (l.drop m))) wr)/\ah (Below (w.heap.size+1) W wr)) (fun v4 _ _=>(RowKit.intOf v4+1).toNat);exact⟨n,aL _,rfl,by rw[Ic (by rw[uK.ae];exact aL _)];simpa [texts] using tC,bS⟩;obtain⟨m,hm,rfl,jJ,cD⟩:=hrel;have nz:aA wr w.heap.size 1 (.slice A n c):=(cD.cell (p:=aD w.heap.size 1) axA).trans (BX.aF 1);rcases j4 m with z8|z8
 ·subst z8;go_wp2_with fail;refine(Tryz.Builder_String_any (w.heap.size+1) (w.heap.size+1) (p++texts (l.drop 0)) wr jJ (by have:=cD.size;have:=BB.lt;omega)).mono ?_;rintro e w9 ⟨rfl,lj⟩;go_wp2;go_ret;exact⟨by rw[AY.ae];rfl,pQ HX ((cD.trans lj).mono (mX _))⟩
 ·obtain⟨k,rfl⟩:∃k,m=k+1:=⟨m - 1,by omega⟩;have df:k<l.length:=by rw[uK.ae];omega
  have nC:ah (Ext w wr):=pQ HX (cD.mono (mX _));have hsz:w.heap.size+1<=wr.heap.size:=by have:=cD.size;have:=BB.lt;omega
  have pz:=af hsz;clear hsz;obtain⟨g,o,rfl,_,hcell⟩:=(HS.ext nC).at_ (kJ df);have lj:l[k]<B9:=HC.1.getElem df;have XP:=af (ajW df);rw[uK.ae] at XP;generalize l[k]=x at*;have agS:x<18446744073709551616:=by unfold B9 at lj;omega
  have hnd:=Dp lj;go_wp2_with fail;refine(aen x agS wr (HT.ext nC)).mono ?_;rintro e w2 ⟨rfl,hx2⟩;have bk:ah (Below (w.heap.size+1) W w2):=cD.trans (hx2.mono pz);have iN:=af (Uc jJ hx2);have xN:w.heap.size+1<=w2.heap.size:=aV pz hx2.size;have Vv:=af xN;have at1:aA w2 w.heap.size 1 (aG g o n c):=(bk.cell (p:=aD w.heap.size 1) axA).trans (BX.aF 1);have hlen:(ByteArray.mk (decDigits x).toArray).size=nDigits x:=by rw[<-decDigits_length];simp [ByteArray.size]
  have HL9:=af hnd.2;have hn9:=hnd.1;clear hnd hx2 nz xN hcell agS lj;have hbl:(byteCells (p++texts (l.drop (k+1)))).length<=9000001:=by
   have h1:=aiC (HC.1.drop (k+1));have h2:(l.drop (k+1)).length<=n:=by rw[qx,uK.ae];omega
   rw[byteCells_length,bD];omega
  have YP:=af hbl;clear hbl;by_cases sR:k+1=n
  ·have Li:ah (texts (l.drop k)=texts (l.drop (k+1))++decDigits x):=by rw[ah,XP.ae,if_pos sR,Ic (by rw[uK.ae];omega)];rfl
   have Qi:=af sR;go_wp2_with fail;refine(Mt (w.heap.size+1) (w.heap.size+1) _ ⟨(decDigits x).toArray⟩ w2 iN (by rw[hlen];have:=YP.ae;omega) Vv).mono ?_;rintro e w3 ⟨rfl,hb3,hx3⟩;have gP:ah (IsBuilder tB t8 (w.heap.size+1) (w.heap.size+1) (byteCells (p++texts (l.drop k))) w3):=by rw[Mx,<-byteCells_append,jk,<-Li.ae] at hb3;exact .inr hb3
   have cE:=af (bk.trans hx3);clear hb3 hx3;go_wp2;go_roundw;exact⟨k,by omega,congrArg _ Om,gP,cE⟩;simp [RowKit.intOf];omega
  ·have Li:ah (texts (l.drop k)=texts (l.drop (k+1))++(List.replicate (9 - nDigits x) 48++decDigits x)):=by rw[ah,XP.ae,if_neg sR,HL9.ae]
   have hrp:(9:Int) - (nDigits x:Int)=((9 - nDigits x:Nat):Int):=Om;go_wp2_with fail;refine(Tryz.strings_Repeat ⟨#[48]⟩ (9 - nDigits x) w2 Om ayk).mono ?_;rintro e w3 ⟨rfl,hx3⟩;have cE:ah (Below (w.heap.size+1) W w3):=bk.trans (hx3.mono Vv);have gP:=af (Uc iN hx3);have ahO:ah (w.heap.size+1<=w3.heap.size):=aV Vv hx3.size;have gL:(ByteArray.mk (repeatL [48] (9 - nDigits x)).toArray).size=9 - nDigits x:=by rw[aac];simp [ByteArray.size]
   clear hx3;go_wp2_with fail;refine(Mt (w.heap.size+1) (w.heap.size+1) _ ⟨(repeatL [48] (9 - nDigits x)).toArray⟩ w3 gP (by rw[gL];have:=YP.ae;omega) ahO).mono ?_;rintro e w4 ⟨rfl,hb4,iL⟩;have dW:=af (cE.trans iL);have auo:ah (w.heap.size+1<=w4.heap.size):=aV ahO iL.size;have kV:ah (IsBuilder tB t8 (w.heap.size+1) (w.heap.size+1) (byteCells (p++texts (l.drop (k+1))++List.replicate (9 - nDigits x) 48)) w4):=by rw[Mx,<-byteCells_append,aac] at hb4;exact .inr hb4
   have DG:ah ((byteCells (p++texts (l.drop (k+1))++List.replicate (9 - nDigits x) 48)).length<=9000011):=(by have:=YP.ae;rw[byteCells_length] at this;rw[ah,byteCells_length,bD,QU];omega);clear hb4 iL;go_wp2_with fail;refine(Mt (w.heap.size+1) (w.heap.size+1) _ ⟨(decDigits x).toArray⟩ w4 kV (by rw[hlen];have:=DG.ae;omega) auo).mono ?_;rintro e w5 ⟨rfl,qZ,iK⟩;have yK:ah (IsBuilder tB t8 (w.heap.size+1) (w.heap.size+1) (byteCells (p++texts (l.drop k))) w5):=by rw[Mx,<-byteCells_append,jk,jk,<-Li.ae] at qZ;exact .inr qZ
   have d8:=af (dW.trans iK);clear qZ iK;go_wp2;go_roundw;exact⟨k,by omega,rfl,yK,d8⟩;simp [RowKit.intOf]):=h
def m5(h:ar:=by
 rw[vZ] at HB HZ;clear vZ;go_loopw [3,5,6,7] (fun v3 _ _ _ wr=>∃(T:List UInt8) (m:Nat) (r:List Nat) (A:aQ) (c:Nat),v3= .string ⟨T.toArray⟩/\ah (NA n T r m)/\(T.length=0\/T+9*r.length<=9000000)/\9*r.length<=9000009/\ah (wr.ownsRow (w.heap.size+1+1) tI 1 (.slice A r c) r (ed r))/\ah (aq wr (w.heap.size+1) bF [.bool bz,.slice A r.length c])/\ah (aq wr w.heap.size bF [.bool false,.slice none 0 0])/\ah (Ext w wr)) (fun v3 _ _ _ _=>aeF v3);exact⟨decDigits n,n,[],none,0,rfl,⟨kK,by simp,.inl rfl⟩,by rw[decDigits_length];simp;omega,by simp,mQ _ _ _ _,HB,HR,HX⟩;obtain⟨T,m,r,A,c,rfl,Lu,hTl,hr9,HOW,jJ,jX,cD⟩:=hrel;obtain⟨k0,k1⟩:=jJ.two;have f1:=jJ.frozen 1;have hsz:w.heap.size+1+1<=wr.heap.size:=by have:=jJ.lt;omega
 by_cases hT:0<T.length
 ·obtain⟨k,m',hk,vW,O8,hrd⟩:=aik Lu hT;have OB:max (0:Int) ((T.length:Int) - 9)=(k:Int):=Om;have HK:=af hk;have HDG:=af vW;have P7:=af hrd;have HXB:=af O8;have df:k<=T.length:=Om;have hk9:T<=k+9:=Om;clear hk vW hrd O8;go_wp2_with fail
  clear OB;obtain⟨wo,rfl⟩:∃wo:World,wo=wr:=⟨_,rfl⟩;go_loop [6,7] (fun v6 v7=>∃i:Nat,k<=i/\i<=T/\v7= .int .i64 i/\v6= .int .i64 (gI 0 ((T.take i).drop k):Nat)) (fun _ v7=>T - (RowKit.intOf v7).toNat);exact⟨k,aL _,df,rfl,by rw[rz axw,Cw];rfl⟩;obtain⟨i,GF,hiT,rfl,rfl⟩:=hrel;by_cases hlt:i<T
  ·have kj:∃d:Nat,d<10/\T[i].toNat=48+d:=(by have:=HDG T[i] Ou;unfold jA at this;exact⟨T[i].toNat - 48,by omega,by omega⟩);obtain⟨d,atO,Ec⟩:=kj;have hi':i<(ByteArray.mk T.toArray).size:=hlt;have kj:(((ByteArray.mk T.toArray)[i]'hi').toNat:Int)=48+(d:Int):=by
    show(T[i].toNat:Int)=_
    omega
   have HST:ah (gI 0 ((T.take (i+1)).drop k)=10*gI 0 ((T.take i).drop k)+d):=(by rw[ah,fR hlt,List.drop_append_of_le_length axw,Sz,Ec];omega);have vP:gI 0 ((T.take i).drop k)<1000000000:=(by have h1:=akj ((T.take i).drop k) 0 (fun c hc=>HDG c (nJ (Ij hc)));have h2:10^((T.take i).drop k).length<=10^9:=fK Od (by rw[qx,cO];omega);omega);generalize gI 0 ((T.take i).drop k)=y at*;clear Ec;go_wp2;go_round;exact⟨i+1,by omega,by omega,by go_num,by rw[HST.ae];exact congrArg _ Om⟩;simp [RowKit.intOf];omega
  ·obtain rfl:i=T.length:=Om;have hxe:(T.take T).drop k=T.drop k:=by rw[dD (aL _)]
   rw[hxe];have O8:=HXB.ae;unfold B9 at O8;generalize gI 0 (T.drop k)=x at*;clear hxe;have htk:(ByteArray.mk T.toArray).extract 0 k=⟨(T.take k).toArray⟩:=by rw[Cx,mV]
   go_wp2_with (at_builtin;refine gf rfl _ _ ui rfl (w.heap.size+1+1) jo _ _ _ rfl HOW.ae #[.int .i64 (x:Int)] 1 1 rfl rfl rfl Om hsz ?_)
   intro v' w3 fu hg3 hb3;obtain⟨A3,c3,rfl,hc3,_,_⟩:=eL fu;have gP:ah (aq w3 (w.heap.size+1) bF [.bool bz,.slice A r c]):=(hg3.block (w.heap.size+1) jJ.lt (fun h=>by have:=(HOW.lt _ h.symm).1;omega)).trans jJ.ae;have nE:ah (aq w3 w.heap.size bF [.bool false,.slice none 0 0]):=(hg3.block w.heap.size jX.lt (fun h=>by have:=(HOW.lt _ h.symm).1;omega)).trans jX.ae;have cE:ah (Ext w w3):=qB cD hg3 cD.size (fun k hk=>by have:=(HOW.lt k hk).1;omega);have fJ:ah (w3.ownsRow (w.heap.size+1+1) tI 1 (.slice A3 (r.length+1) c3) (r++ [x]).length (ed (r++ [x]))):=by rw[ah,bD,Cs];exact fu
   obtain⟨k0,k1⟩:=gP.two;have f1:=gP.frozen 1;have kV:=af (gP.bh 1 (.slice A3 (r.length+1) c3));clear fu hg3 hb3;go_wp2;go_roundw
   ·refine⟨T.take k,m',r++ [x],A3,c3,rfl,P7,by rw[cO,bD,gc];have:=HK.ae;omega,by rw[bD,gc];omega,?_,?_,nE.far (p:=aD (w.heap.size+1) 1) (xU _) _,cE.setCell (p:=aD (w.heap.size+1) 1) (mX _) _⟩
    ·rw[bD] at*;exact TR fJ axU _
    ·rw[bD] at*;exact kV
   simp [aeF,ByteArray.size];have:=HK.ae;omega
 ·have HE:=af (aiH Lu hT);obtain⟨A',c',e,hc,_,hsl⟩:=eL HOW;injection e with e1 e2 e3;subst e1 e3;have XS:=af hsl;clear hsl;go_wp2_with fail
  refine(abK _ bz r wr ⟨A,c,rfl,C9 HOW,HE.1,XS⟩ Om).mono ?_;rintro e w2 ⟨v2,rfl,hv2,hx2⟩;rw[HE.2,HZ.ae] at hv2;obtain⟨b2,A2,n2,c2,rfl,uE⟩:=hv2.parts;have nG:=af (jX.ext hx2);have bk:=af (cD.trans hx2);obtain⟨r0,r1⟩:=nG.two;have fr0:=nG.frozen 0;have fr1:=nG.frozen 1;clear hv2 hx2;go_wp2;exact NE rfl rfl rfl nG.ae uE bk (aL _) (fun v W' h1 h2=>⟨v,rfl,h1,h2⟩)):=h
def m6(h:ar:=by
 obtain⟨a,r,A,c,rfl,ha,HO,hr3,HOW,jJ,jX,cD⟩:=hrel;obtain⟨k0,k1⟩:=jJ.two;have f1:=jJ.frozen 1;have hsz:w.heap.size+1+1<=wr.heap.size:=by have:=jJ.lt;omega
 by_cases h0:a=0
 ·subst h0;have HE:=af (ame HO);obtain⟨A',c',e,hc,_,hsl⟩:=eL HOW;injection e with e1 e2 e3;subst e1 e3;have HV:ah (dJ wr (.agg #[.bool bz,.slice A r c]) z):=dJ.mk' HE.1 HE.2 uI.symm (C9 HOW) hsl;obtain⟨r0,r1⟩:=jX.two;have fr0:=jX.frozen 0;have fr1:=jX.frozen 1;clear hsl hc;go_wp2;exact NE rfl rfl rfl jX.ae HV cD (aL _) (fun v W' h1 h2=>⟨v,rfl,h1,h2⟩)
 ·obtain⟨hst,ha2⟩:=akg HO (ZB h0) HZ;have HST:=af hst;clear hst;have hlt:a/B9<a:=Nat.div_lt_self (ZB h0) Od;have hmB:a%B9<1000000000:=fC _ Od;have jT:(a:Int)%1000000000=((a%B9:Nat):Int):=axp;have n_:(a:Int)/1000000000=((a/B9:Nat):Int):=axp;have GD:(-(a:Int)).tmod 1000000000= -((a%B9:Nat):Int):=by rw[Int.neg_tmod,Int.tmod_eq_emod_of_nonneg Om,jT]
  have hm4:(-(a:Int)).tdiv 1000000000= -((a/B9:Nat):Int):=by rw[Int.neg_tdiv,Int.tdiv_eq_ediv_of_nonneg Om,n_]
  have axg:((a:Int) !=0)=true:=by simpa using h0
  have av8:((-(a:Int)) !=0)=true:=by simpa using h0
  generalize a%B9=x at*;generalize a/B9=y at*;rcases j4 x with rfl|hx0
  ·have awu:(-(a:Int)).tmod 1000000000=0:=GD;have awv:(a:Int)%1000000000=0:=jT;clear GD jT;go_wp2_with (at_builtin;refine gf rfl _ _ ui rfl (w.heap.size+1+1) jo _ _ _ rfl HOW.ae #[.int .i64 ((0:Nat):Int)] 1 1 rfl rfl rfl Om hsz ?_)
   intro v' w3 fu hg3 hb3;obtain⟨A3,c3,rfl,hc3,_,_⟩:=eL fu;have gP:ah (aq w3 (w.heap.size+1) bF [.bool bz,.slice A r c]):=(hg3.block (w.heap.size+1) jJ.lt (fun h=>by have:=(HOW.lt _ h.symm).1;omega)).trans jJ.ae;have nE:ah (aq w3 w.heap.size bF [.bool false,.slice none 0 0]):=(hg3.block w.heap.size jX.lt (fun h=>by have:=(HOW.lt _ h.symm).1;omega)).trans jX.ae;have cE:ah (Ext w w3):=qB cD hg3 cD.size (fun k hk=>by have:=(HOW.lt k hk).1;omega);have fJ:ah (w3.ownsRow (w.heap.size+1+1) tI 1 (.slice A3 (r.length+1) c3) (r++ [0]).length (ed (r++ [0]))):=by rw[ah,bD,Cs];exact fu
   obtain⟨k0,k1⟩:=gP.two;have f1:=gP.frozen 1;have kV:=af (gP.bh 1 (.slice A3 (r.length+1) c3));clear fu hg3 hb3;go_wp2;go_roundw
   ·refine⟨y,r++ [0],A3,c3,?_,by omega,HST,by have:=HST.2.2.2.1;exact this,?_,?_,nE.far (p:=aD (w.heap.size+1) 1) (xU _) _,cE.setCell (p:=aD (w.heap.size+1) 1) (mX _) _⟩
    ·first|rfl|exact congrArg _ Om
    ·rw[bD] at*;exact TR fJ axU _
    ·rw[bD] at*;exact kV
   simp [RowKit.intOf];omega
  ·have hx1: -(x:Int)<0:=Om;have hx2:¬(x:Int)<0:=Om;go_wp2_with (at_builtin;refine gf rfl _ _ ui rfl (w.heap.size+1+1) jo _ _ _ rfl HOW.ae #[.int .i64 ((x:Nat):Int)] 1 1 rfl rfl rfl Om hsz ?_)
   intro v' w3 fu hg3 hb3;obtain⟨A3,c3,rfl,hc3,_,_⟩:=eL fu;have gP:ah (aq w3 (w.heap.size+1) bF [.bool bz,.slice A r c]):=(hg3.block (w.heap.size+1) jJ.lt (fun h=>by have:=(HOW.lt _ h.symm).1;omega)).trans jJ.ae;have nE:ah (aq w3 w.heap.size bF [.bool false,.slice none 0 0]):=(hg3.block w.heap.size jX.lt (fun h=>by have:=(HOW.lt _ h.symm).1;omega)).trans jX.ae;have cE:ah (Ext w w3):=qB cD hg3 cD.size (fun k hk=>by have:=(HOW.lt k hk).1;omega);have fJ:ah (w3.ownsRow (w.heap.size+1+1) tI 1 (.slice A3 (r.length+1) c3) (r++ [x]).length (ed (r++ [x]))):=by rw[ah,bD,Cs];exact fu
   obtain⟨k0,k1⟩:=gP.two;have f1:=gP.frozen 1;have kV:=af (gP.bh 1 (.slice A3 (r.length+1) c3));clear fu hg3 hb3;go_wp2;go_roundw
   ·refine⟨y,r++ [x],A3,c3,?_,by omega,HST,by have:=HST.2.2.2.1;exact this,?_,?_,nE.far (p:=aD (w.heap.size+1) 1) (xU _) _,cE.setCell (p:=aD (w.heap.size+1) 1) (mX _) _⟩
    ·first|rfl|exact congrArg _ Om
    ·rw[bD] at*;exact TR fJ axU _
    ·rw[bD] at*;exact kV
   simp [RowKit.intOf];omega):=h
def m7(h:ar:=by
 simp only[Act.put,eo,d9,ep];refine aO 4 ?_;intro K hK;go_simp;refine hK.ae _ _ (fun _=>aJ.alloc _) ?_;refine aR fun WZ cI BZ=> ?_;have P9:=af (xm nE cI);have pE:=af ((FT (fun c x hc=>k6 _ _ _ _ (fun _ _=>Iz bS) hc) iA).ND (.jN cI.ae));have HT4:=af (eB XR cI);have Ef:ah (WZ.ownsRow wd.heap.size fg 2 (aG wd.heap.size 0 1 1) 1 [.slice Bi xv di,av xw]):=ad7 BZ rfl (aL _) Od;clear hK;have WF:(xs.drop (k*2)).length=(o - k)*2:=by rw[qx,P9.1];omega
 obtain⟨ad,had,hsl⟩:∃ad,(if co=k then some (⟨go',0,none⟩:Addr) else dV go' (k*2))=some ad/\Sl WZ fg (some ad) (xs.drop (k*2)):=by
  by_cases AC:co=k
  ·have h0:xs.drop (k*2)= []:=lU (by rw[WF];omega);exact⟨⟨go',0,none⟩,if_pos AC,by rw[h0];exact Sl.nil⟩
  ·exact⟨⟨go',k*2,none⟩,if_neg AC,al5 P9⟩
 rw[had];clear had;refine jM 8 Ok ?_;intro oo nx K hK;simp only[eR,dX,dA,dl] at nx;subst nx;refine nV rfl ?_;refine NB _ _ lI rfl wd.heap.size Cq _ _ _ rfl Ef.ae ad (o - k) (co - k) (xs.drop (k*2)) rfl WF hsl (fun u hu=>ac3 pE u (Ij hu)) Om cI.size ?_;intro v8 w8 Po ahi _;have Ky:WZ.grownBy w8 (some wd.heap.size):=ahi;clear ahi;obtain⟨A8,c8,rfl,_,_,_⟩:=eL Po;obtain⟨g8,rfl,awS,awR⟩:=Tm Po Om;have LN:=af (kI cI Ef Ky (aL _));have HK8:ah (Kept bC WZ w8):=tP Ef Ky Od;have lz:=af (kI (cE.trans cI) Ef Ky cE.size);have Lv:=af (xi P9 Ky (fun q hq he=>by
  have e1:wd.heap.size=q:=by injection hq
  have e2:go'=q:=by simpa [Value.ownBlock] using he
  have:=(aeM nE);omega))
 have yJ:=af (pE.ND HK8);clear Ky BZ;simp only[Act.put,eo,d9,ep];refine hK.ae _ _ (fun _=>LN.ae) ?_;clear hK;refine jM 9 Ok ?_;intro oo nx K hK;simp only[eR,dX,dA,dl] at nx;subst nx;refine nV rfl ?_;have hl9:([Value.slice Bi xv.length di,av xw]++xs.drop (k*2)).length=(1+(o.length - k))*2:=by rw[bD,WF];simp;omega
 refine NB _ _ lI rfl w.heap.size Cq _ _ _ rfl (Sx Lv hk) ⟨g8,0,none⟩ _ _ _ rfl hl9 (I8 Po) ?_ Om lz.size ?_
 ·intro u hu;rcases bO.1 hu with hu|hu
  ·rcases aK.1 hu with rfl|hu
   ·rfl
   ·rw[bE.1 hu];rfl
  ·exact ac3 yJ u (Ij hu)
 intro v9 w9 DX JT _;have D6:w8.grownBy w9 (some go'):=JT;clear JT;have HK9:ah (Kept bC w8 w9):=tP (Sx Lv hk) D6 Od;have dQ:=af (kI lz (Sx Lv hk) D6 (aL _));have lA:ah (bG fg 2 fP w.heap.size w9 v9 (o.take k++(xv,xw)::o.drop k)):=⟨_,by have e:(o.take k++(xv,xw)::o.drop k).length=k+(1+(o.length - k)):=(by rw[bD,cO,cT,qx];omega);rw[e];exact DX,(aqX (x:=(xv,xw)) (k:=k) (yJ.ND HK9) (TL.Oi (TL.Oi HT4 HK8) HK9))⟩
 obtain⟨A9,c9,rfl,_,_,_⟩:=eL DX;clear DX D6;simp only[Act.put,eo,d9,ep];refine hK.ae _ _ Oe ?_;clear hK;refine aO 10 ?_;intro K hK;go_simp;refine hK.ae _ _ Oe ?_;refine bY Ok ?_;clear hK;go_wp2_with fail;go_roundw;exact⟨i+1,by omega,by go_num,by rw[mK.ae,HN.ae];exact lA,dQ⟩;simp [RowKit.intOf];omega):=h
def m8(h:ar:=by
 go_upto_region 58 with fail
 go_loopw [19] (fun v19 wr=>∃k:Nat,k<=i/\v19= .int .i64 k/\ah (Ext w6 wr)) (fun v19 _=>i - (RowKit.intOf v19).toNat)
 exact⟨0,aU _,rfl,aB _⟩;obtain⟨k,vR,rfl,iy⟩:=hrel;by_cases GF:k<i
 ·have df:k<x.a_.length:=Om;have hkM:k<M:=Om;have PK:=yH k GF;have yr:=af (fun w' hx=>HP w' hx k df);generalize x.a_[k].1=ak at*;clear df;have EI:=af (uS.ext iy);have pL:=af (BA.ext iy);have EB:=af (Hp.trans iy);clear s0 s1 s2 s3 q0 q1 q2 qh;go_upto_region 60 with fail
  have bK:ah (∀w',Ext wr w'->aA w' w.heap.size 2 (aG g o M e)/\aA w' g (o+k*3) (.int .i64 ak)/\aA w' wo.heap.size 0 (.int .i64 q)):=fun w' hx=>⟨(EI.ext hx).aF 2,yr.ae w' (EB.trans hx),(pL.ext hx).aF 0⟩;have aJ:ah (Ext wr wr.drew):=(aB wr).drew;refine cG (S:=fun w'=>Ext wr w') (T:=fun _=>false) Ok ?_;refine ax 0 235 ?_;refine ax 1 236 ?_;refine ax 2 237 ?_;refine ax 3 238 ?_;refine ax 4 239 ?_;refine ax 5 240 ?_;refine ax 6 241 ?_;refine ax 7 242 ?_;refine ax 8 243 (v:= .bool false) ?_;refine bY Ok ?_;have jG:=af (iy.trans aJ);clear bK aJ;go_wp2_with fail
  go_roundw;exact⟨k+1,by omega,by go_num,jG⟩;simp [RowKit.intOf];omega
 ·obtain rfl:i=k:=Om;have pL:=af (BA.ext iy);have EI:=af (uS.ext iy);have jG:=af (kr.trans iy);clear s0 s1 s2 s3 q0 q1 q2 qh;obtain⟨s0,s1,s2,s3⟩:=EI.four;have q0:=pL.aF 0;go_wp2_with fail
  go_roundw;exact⟨i+1,by omega,by go_num,jG⟩;simp [RowKit.intOf];omega):=h
def m9(h:ar:=by
 skip
 obtain⟨tn,uj⟩:∃tn,[114]++ [UInt8.ofNat (97+i)]=tn:=⟨_,rfl⟩;have LT:=af (fun w'=>R8 [114] i w' Om Ou);rw[uj] at LT;have G_:=af uj;clear uj;have Vh:1<=l9.length:=Om;go_upto_region 20 with fail
 refine aR fun W5 d8 BI=> ?_;have d_:ah (IL W5 (aG wr.heap.size 0 1 1) [0]):=mY (l:= [(0:Int)]) BI ⟨[av 0],[],rfl,rfl,rfl⟩ Ou;have mI:=af (mJ.ext d8);have jW:ah (r_ l9.length (ay++ [(tn,[0])])):=by have h:=r_.snoc (gC.mono (by rw[A_.ae];exact sQ)) (x:= [0]) Ou (fun a ha=>by rw[bE.1 ha];omega) (EM _ _);rw[jH.ae,show [114,UInt8.ofNat (97+i)]= [114]++ [UInt8.ofNat (97+i)] from rfl,G_.ae] at h;exact h
 have XL:ah (Ol l9.length (ay++ [(tn,[0])])):=fun a ha=>by
  rcases cA a n0 with h|h
  ·obtain⟨r,hr,h'⟩:=XM a (by rw[A_.ae];exact h);exact⟨r,bO.2 (.inl hr),h'⟩
  ·have:=lT.all a h ha;cases this
 clear hb0 BI;have iu:=af (mI.ae).NW;have hb1:=iu.blk.aF 1;go_upto_region 20 with fail
 obtain⟨S,fA⟩:∃S:World->Prop,S=fun w'=>aA w' (w.heap.size+1) 1 (.slice A1 i c1):=⟨_,rfl⟩;have bK:ah (∀w',S w'->aA w' (w.heap.size+1) 1 (.slice A1 i c1)):=axt;have cF:ah (∀w' x l,aq w' (w.heap.size+1) kM (x:: .slice A1 i c1::l)->S w'):=by rw[ah,fA];exact fun w' x l h=>h.aF 1
 clear fA hb1;have iu:=af (iu.ext (aB W5).drew);have aJ:ah (S (W5).drew):=cF _ _ _ iu.blk;refine cG (S:=S) (T:=fun j=>decide (9<=j)) Ok ?_;generalize(W5).drew=wd at*;refine ax 0 76 ?_;refine ax 1 77 ?_;refine ax 2 78 ?_;refine ax 4 80 ?_;refine aO 3 ?_;intro K hK;go_simp;refine(LT _).mono ?_;rintro e wx ⟨rfl,hx⟩;have iu:=af (iu.ext hx);refine hK.ae _ _ (fun _=>cF _ _ _ iu.blk) ?_;clear hK hx;have aJ:=af (cF _ _ _ iu.blk);refine ax 5 81 ?_;refine aO 6 ?_;intro K hK;go_simp;refine hK.ae _ _ (fun _=>cF _ _ _ (iu.blk.ext ((aB _).alloc _))) ?_;refine aR fun WZ cI BX=> ?_;have iu:=af (iu.ext cI);clear hK;refine jM 7 Ok ?_;intro o ho K hK;simp only[eR,dX,dA,dl] at ho;subst ho;refine nV rfl ?_;obtain⟨xq,RQ,CQ⟩:=iu.ol;rw[jH.ae] at RQ;have dC:(i+1)*40<=140737488355328:=Om;refine rU _ _ 27 rfl W.heap.size abO _ _ _ rfl RQ _ [aM tn,aG wr.heap.size 0 1 1] BX.ae 1 1 rfl rfl rfl dC iu.sz ?_;intro v' wq iq kS nA;obtain⟨Aq,cq,rfl,_,_,_⟩:=eL iq;have S6:=af (iu.ahE HQ (x:=(tn,[0])) jH RQ CQ d_ iq kS);clear RQ CQ iq kS nA BX;simp only[Act.put,eo,d9,ep];refine hK.ae _ _ (fun _=>cF _ _ _ S6.blk) ?_;have aJ:=af (cF _ _ _ S6.blk);refine ax 8 84 ?_;have hc0:=S6.blk.aF 1;have km:=S6.blk.frozen 1;obtain⟨W7,iM,S7,o_⟩:=S6.put HQ 1 (.slice Aq (i+1) cq);have kT:=af iM;clear iM hK;refine aO 9 ?_;intro K hK;go_simp;refine hK.ae _ _ Oe ?_;rw[kT.ae];refine bY Ok ?_;clear hc0 km o_ hK;go_wp2_with fail
 go_roundw;exact⟨i+1,_,_,l9,ay++ [(tn,[0])],_,by omega,by go_num,by rw[bD,jH.ae];rfl,n_,fun _=>Vh,QA,jW,XL,S7⟩;simp [RowKit.intOf];omega):=h
def m10(h:ar:=by
 go_wp2_with fail
 refine(oP g 4 _ (dS.ae).src Od Od).mono ?_;rintro e wx ⟨r2,hr2,rfl,sN,qc⟩;have dS:=af ((dS.ae).call HQ qc sN);have wP:=af (wP.only qc Om);clear sN qc lm;have lm:=wP.aF 1;by_cases hr2:0<r2
 ·have hb2:decide ((r2:Int)>0)=true:=fN;go_upto_region 27 with fail
  obtain⟨S,fA⟩:∃S:World->Prop,S=fun w'=>aA w' (w.heap.size+1) 2 (.slice Af a_.length cf):=⟨_,rfl⟩;have bK:ah (∀w',S w'->aA w' (w.heap.size+1) 2 (.slice Af a_.length cf)):=axt;have cF:ah (∀w' x y l,aq w' (w.heap.size+1) kM (x::y:: .slice Af a_.length cf::l)->S w'):=by rw[ah,fA];exact fun w' x y l h=>h.aF 2
  clear fA;have dS:=af (dS.ext (aB wx).drew);have aJ:ah (S (wx).drew):=cF _ _ _ _ dS.blk;refine cG (S:=S) (T:=fun j=>decide (9<=j)) Ok ?_;generalize(wx).drew=wd at*;refine ax 0 118 ?_;refine ax 1 119 ?_;refine ax 2 120 ?_;refine ax 3 121 ?_;refine aO 4 ?_;intro K hK;go_simp;refine(oP g 2 _ dS.src Od Od).mono ?_;rintro e wy ⟨ms,hms,rfl,sN,qc⟩;have dS:=af (dS.call HQ qc sN);refine hK.ae _ _ (fun _=>cF _ _ _ _ dS.blk) ?_;clear hK sN qc;have aJ:=af (cF _ _ _ _ dS.blk);refine ax 5 123 ?_;refine aO 6 ?_;intro K hK;go_simp;refine hK.ae _ _ (fun _=>cF _ _ _ _ (dS.blk.ext ((aB _).alloc _))) ?_;refine aR fun WZ cI BX=> ?_;have dS:=af (dS.ext cI);clear hK;refine jM 7 Ok ?_;intro o ho K hK;simp only[eR,dX,dA,dl] at ho;subst ho;refine nV rfl ?_;obtain⟨xq,RQ,CQ⟩:=dS.of;have dC:(a_.length+1)*24<=140737488355328:=by have:=uN.len;omega
  refine rU _ _ 28 rfl W.heap.size acu _ _ _ rfl RQ _ [av j,av 1,av ms] BX.ae 1 1 rfl rfl rfl dC dS.sz ?_;intro v' wq iq kS nA;obtain⟨Aq,cq,rfl,_,_,_⟩:=eL iq;have S6:=af (dS.ahG HQ (x:=((j:Int),1,(ms:Int))) rfl RQ CQ iq kS);clear RQ CQ iq kS nA BX;simp only[Act.put,eo,d9,ep];refine hK.ae _ _ (fun _=>cF _ _ _ _ S6.blk) ?_;have aJ:=af (cF _ _ _ _ S6.blk);refine ax 8 126 ?_;have hc0:=S6.blk.aF 2;have km:=S6.blk.frozen 2;obtain⟨W7,iM,S7,o_⟩:=S6.put HQ 2 (.slice Aq (a_.length+1) cq);have kT:=af iM;clear iM hK;refine aO 9 ?_;intro K hK;go_simp;refine hK.ae _ _ Oe ?_;rw[kT.ae];refine bY Ok ?_;have mK:=af (uN.snoc YS (k:=1) (m:=(ms:Int)) (.inl ⟨rfl,rfl,by omega⟩));clear hc0 km o_ hK lm;go_wp2_with fail
  go_roundw;exact⟨j+1,_,a_++ [((j:Int),1,(ms:Int))],_,by omega,by go_num,mK,S7⟩;simp [RowKit.intOf];omega
 ·have hb2:decide ((r2:Int)>0)=false:=aW;go_wp2_with fail;go_roundw;exact⟨j+1,_,a_,_,by omega,by go_num,uN.skip,dS⟩;simp [RowKit.intOf];omega):=h
def m11(h:ar:=by
 intro k b hb us w3 hI qg _ o ho K hK;obtain⟨Xl,KP⟩:=qp w3 hI;have Kl:pb<W.heap.size:=cy hpl HX.size;have hsz:W.heap.size<=w3.heap.size:=Xl.size;have wK:=af Xl;have uL:=af KP;have HK:=af (fun v w' (hc:aZ [pb] w3 w') (hm:dy x pb w') (h0:b.R v w')=>hK v w' (jh w' (wK.trans hc) hm) h0 fun j c hj _ u hu=>by
  refine⟨?_,trivial,trivial⟩;rcases j with _|_|_|_|j;all_goals simp only[dA,dX,ZK,dl,reduceCtorEq] at hj
  all_goals subst hj
  ·exact Gf.bX hu uL hc
  ·exact Dz.bX hu hc Kl
  ·exact Dy.bX hu hc Kl
  ·exact DC.bX hu hc Kl)
 clear hK Xl KP hI;rcases k with _|_|_|_|k
 ·have CP:=af (amC jb pb x T aN first w3 (HBW.bX HMW hne wK) uL h1 h2);simp only[dA,dl] at hb;subst hb;clear qg;simp only[eR,dX,dA,dl] at ho;subst ho;simp only[fc];go_simp;have ku:=HK.ae;simp only[fc,Act.put,eo,d9,ep] at ku;refine CP.mono ?_;rintro e5 w5 ⟨u5,rfl,hp5,Kp,o9⟩;exact ku _ _ o9 Kp hp5
 ·have mC:=amr x.ai Om;simp only[dA,dX,dl] at hb;subst hb;clear qg;simp only[eR,dX,dA,dl] at ho;subst ho;simp only[fc];go_simp;have ku:=HK.ae;simp only[fc,Act.put,eo,d9,ep] at ku;exact ku _ _ (.gV ((aB w3).alloc _)) (uL.ext ((aB w3).alloc _)) ⟨_,rfl,by unfold tV;rw[MO];exact jd w3 bC (List.replicate x.ai (Value.string ⟨#[]⟩)),hsz⟩
 ·have mC:=IR x.ai Om;simp only[dA,dX,dl] at hb;subst hb;clear qg;simp only[eR,dX,dA,dl] at ho;subst ho;simp only[fc];go_simp;have ku:=HK.ae;simp only[fc,Act.put,eo,d9,ep] at ku;exact ku _ _ (.gV ((aB w3).alloc _)) (uL.ext ((aB w3).alloc _)) ⟨_,rfl,by unfold fU;rw[MO];exact jd w3 fV (List.replicate x.ai (Value.bool false)),hsz⟩
 ·skip
  simp only[dA,dX,dl] at hb;subst hb;clear qg;simp only[eR,dX,dA,dl] at ho;subst ho;simp only[fc];go_simp;have ku:=HK.ae;simp only[fc,Act.put,eo,d9,ep] at ku;exact ku _ _ (.gV ((aB w3).alloc _)) (uL.ext ((aB w3).alloc _)) ⟨_,rfl,Ct w3 bC,hsz⟩
 ·simp at hb):=h
def m12(h:ar:=by
 go_wp2_with fail
 have bS:ah (Ext w (((w.alloc (Obj.cells #[Value.bool ba,Value.slice Aa na ca] dm)).alloc (Obj.cells #[Value.bool bb,Value.slice Ab nb cb] dm)).alloc (Obj.cells #[Value.bool false,Value.slice none 0 0] dm))):=(((aB w).alloc _).alloc _).alloc _;have H0:=af (li.new w (.bool ba) (.slice Aa na ca) (.bool bb) (.slice Ab nb cb) (.bool false) (.slice none 0 0));generalize((w.alloc (Obj.cells #[Value.bool ba,Value.slice Aa na ca] dm)).alloc (Obj.cells #[Value.bool bb,Value.slice Ab nb cb] dm)).alloc (Obj.cells #[Value.bool false,Value.slice none 0 0] dm)=W at*;exact Gq):=h
def m13(h:ar:=by
 refine jM 5 Ok ?_;intro o ho K hK;simp only[eR,dX,dA,dl] at ho;subst ho;refine nV rfl ?_;have hown:=HO rfl;refine rU _ _ nS rfl wr.heap.size str_slice _ _ _ rfl hown _ [aM t] (BN rfl) 1 1 rfl rfl rfl dC HX.size ?_;intro vA wA hoA WV _;have HA:ah (OS wr.heap.size (kp.length+1) (kp.map encStr++ [aM t]) vA wA):=hoA;have HX:=af (kI HX hown WV (aL _));clear hown hoA WV;simp only[Act.put,eo,d9,ep];refine hK.ae _ _ (fun _=>cF _ HX) ?_;clear hK;refine jM 9 Ok ?_;intro o ho K hK;simp only[eR,dX,dA,dl] at ho;subst ho;go_simp;refine(CWr _ HX).mono ?_;rintro eW wW ⟨gW,rfl,hfW,PD,Gu⟩;have HFx:ah (FxQ wr.heap.size gW (ew fx a t) wW):=⟨hfW,aV HX.size PD⟩;have HA:=af (HA.ext (Gu));have HX:=af (HX.trans Gu);refine hK.ae _ _ (fun _=>cF _ HX) ?_;clear hK;obtain⟨A5,c5,rfl, -, -, -⟩:=eL HA;have AW:=aqv HA;have U_:(kp++ [t]).length=kp.length+1:=ayO;rw[U_] at AW;have Ym:=HE.hS dn wr _ HI (.gV HX.ae) ((HE.hJ dn wr HI).ext HX.ae);have CI:=HIH t dn gW _ A5 c5 Ym HFx.1 (aV (GM.size) HFx.2) (by rw[U_];exact AW) (by rw[HGN.ae t];exact Ve);rw[U_] at CI;refine aO 10 ?_;intro K hK;go_simp;refine CI.mono ?_;rintro e6 w6 ⟨rfl,hI6,KE⟩;have aJ:=af ((HE.cells (HE.hI _ w6 hI6)).2.2.2);refine hK.ae _ _ (fun _=>aJ.ae) ?_;clear hK;have Ew:=af hI6;have rv:=af ((HC.trans (.of (.gV HX.ae))).trans KE);refine ax 11 47 ?_;refine bY Ok ?_;go_wp2_with fail
 go_roundw
 ·refine⟨k+1,by omega,by go_num,?_,rv⟩;rw[ah,fQ.ae,<-Ys.ae t];exact Ew
 simp [RowKit.intOf];omega):=h
def m14(h:ar:=by have bS:ah (Ext w (((w.alloc (Obj.cells #[Value.bool ba,Value.slice Aa na ca] bF)).alloc (Obj.cells #[Value.bool bb,Value.slice Ab nb cb] bF)).alloc (Obj.cells #[Value.bool false,Value.slice none 0 0] bF))):=(((aB w).alloc _).alloc _).alloc _;have H0:=af (iV.new w (.bool ba) (.slice Aa na ca) (.bool bb) (.slice Ab nb cb) (.bool false) (.slice none 0 0));generalize((w.alloc (Obj.cells #[Value.bool ba,Value.slice Aa na ca] bF)).alloc (Obj.cells #[Value.bool bb,Value.slice Ab nb cb] bF)).alloc (Obj.cells #[Value.bool false,Value.slice none 0 0] bF)=W at*;obtain⟨c0,c1,c2,c3⟩:=H0.cells;exact k14):=h
def m15(h:ar:=by obtain⟨ba,Aa,na,ca,bb,Ab,nb,cb,rfl,HA,HB⟩:=ha.parts;obtain⟨bc,Ac,nc,cc,bd,Ad,nd,cd,rfl,HC,HD⟩:=hb.parts;have FA:=af (fa.num Om);have FB:=af (fa.den Om);have FC:=af (fb.num Om);have FD:=af (fb.den Om);have F1:=af (Jh fa.1 (by simpa using fb.2:((q.den:Int)).natAbs<_) Om);have F2:=af (Jh fb.1 (by simpa using fa.2:((p.den:Int)).natAbs<_) Om);have F3:=af (Jh (by simpa using fa.2:((p.den:Int)).natAbs<_) (by simpa using fb.2:((q.den:Int)).natAbs<_) Om);exact k15):=h
def m16(h:ar:=by
 rw[<-HA.inv.1,<-HB.inv.1] at hd;have HD:=af hd;go_enter func208,ntmps208;go_wp2_with fail
 have bS:ah (Ext w ((((w.alloc (Obj.cells #[Value.bool ba,Value.slice Aa na ca] dm)).alloc (Obj.cells #[Value.bool bb,Value.slice Ab nb cb] dm)).alloc (Obj.cells #[Value.bool false,Value.slice none 0 0] dm)).alloc (Obj.cells #[Value.bool false,Value.slice none 0 0] dm))):=((((aB w).alloc _).alloc _).alloc _).alloc _;have H0:=af ((li.new w (.bool ba) (.slice Aa na ca) (.bool bb) (.slice Ab nb cb) (.bool false) (.slice none 0 0)).ext ((aB _).alloc (Obj.cells #[Value.bool false,Value.slice none 0 0] dm)));have H4:=af (l6 (((w.alloc (Obj.cells #[Value.bool ba,Value.slice Aa na ca] dm)).alloc (Obj.cells #[Value.bool bb,Value.slice Ab nb cb] dm)).alloc (Obj.cells #[Value.bool false,Value.slice none 0 0] dm)) dm [.bool false,.slice none 0 0] (w.heap.size+1+1+1) Ou);have h4:(Obj.cells #[Value.bool false,Value.slice none 0 0] dm)=(Obj.cells [Value.bool false,Value.slice none 0 0].toArray dm):=rfl;rw[<-h4] at H4;generalize(((w.alloc (Obj.cells #[Value.bool ba,Value.slice Aa na ca] dm)).alloc (Obj.cells #[Value.bool bb,Value.slice Ab nb cb] dm)).alloc (Obj.cells #[Value.bool false,Value.slice none 0 0] dm)).alloc (Obj.cells #[Value.bool false,Value.slice none 0 0] dm)=W at*;refine(akp _ _ x.natAbs y.natAbs W (HA.inv.2.ext bS) (HB.inv.2.ext bS) FX.fit FY.fit ayM).mono ?_;rintro e w1 ⟨q,r,rfl,hq,hr,hx1⟩;obtain⟨Aq,nq,cq,rfl,_,_,HQ⟩:=hq.parts;obtain⟨Ar,nr,cr,rfl,Kk,hrc,HR⟩:=hr.parts;have cD:=af (bS.trans hx1);have H1:=af (H0.ext hx1);have H5:=af (H4.ext hx1);have fq:ah (Fit (x.natAbs/y.natAbs)):=FX.fit.le (Ce _ _);have fr:ah (Fit (x.natAbs%y.natAbs)):=FX.fit.le (Nat.mod_le _ _);obtain⟨c0,c1,c2,c3⟩:=H1.cells;exact k16):=h
def m17(h:ar:=by
 have HV:=af hV;have HF:=af hF;have n_:c<=9223372036854775807:=hm;have Ex:=af h0;clear hV hF h0;go_enter func277,ntmps277;go_upto_region 2 with fail
 have tC:ah (∀k,k<0->P k=false):=fun k hk=>by omega
 go_loopw [5,8] (fun _ v8 wr=>∃j:Nat,j<=n/\v8= .int .i64 j/\ah (I wr)/\ah (∀k,k<j->P k=false)) (fun _ v8 _=>n - (RowKit.intOf v8).toNat)
 exact⟨0,aU _,rfl,Ex,tC⟩;obtain⟨j,hj,rfl,HI,HB⟩:=hrel;by_cases kR:j<n
 ·obtain⟨g,o,hA,hcell⟩:=HV _ _ HI kR;try obtain⟨hcell,avX⟩:=hcell
  have CF:=HF _ _ HI kR;subst hA;go_wp2_with fail;refine CF.mono ?_;rintro e w' ⟨rfl,hI⟩;have nH:=af hI;clear hI CF hcell;cases hp:P j with
  |true=>have hres:=I2 kR hp HB;go_wp2;exact bodyPost_ret (v:= .int .i64 j) (by simp [results,results277,go_sem]) rfl ⟨by rw[hres],nH⟩
  |false=>
   clear hid;have yL:ah (∀k,k<j+1->P k=false):=fun k hk=>by
    rcases cA k j with h|h
    ·exact HB k h
    ·rw[show k=j by omega];exact hp
   go_wp2;go_roundw;exact⟨j+1,by omega,by go_num,nH,yL⟩;simp [RowKit.intOf];omega
 ·have d1:decide ((j:Int)<(n:Int))=false:=aW;have atL:j=n:=Om;subst atL;have hres:=I3 HB;go_wp2;exact bodyPost_ret (v:= .int .i64 (-1)) (by simp [results,results277,go_sem]) rfl ⟨by rw[hres],HI⟩):=h
def m18(h:ar:=by
 have Wu:t/B9<=1:=axs;have htp:t%B9<1000000000:=fC _ Od;have qq:=af (HD.snoc (x:=t%B9) (fC _ Od));generalize t%B9=p at*;generalize t/B9=q at*;go_wp2_with (at_builtin;refine gf rfl _ _ ui rfl w.heap.size jo _ _ _ rfl HO.ae #[.int .i64 (p:Int)] 1 1 rfl rfl rfl Om HX.size ?_)
 intro v' w3 fu hg3 _;have cE:ah (Ext w w3):=qB HX hg3 HX.size (fun k hk=>(HO.lt k hk).1);have fJ:ah (w3.ownsRow w.heap.size tI 1 v' (k+1) (ed (r++ [p]))):=by rw[ah,Cs];exact fu
 clear fu hg3 dZ;go_wp2;go_roundw;exact⟨k+1,q,r++ [p],by omega,by omega,by go_num,by first|rfl|exact congrArg _ lQ|exact congrArg _ Om,Wu,by simp [HR.ae],qq,HA,fJ,cE⟩;simp [RowKit.intOf];omega):=h
def m19(h:ar:=by
 clear hu;go_enter func126,ntmps126;go_wp2_with fail;rw[VI.1,VI.2.1,VI.2.2];have hB:=l6 w dm [.bool false,.slice none 0 0] w.heap.size rfl;refine(tS (dV (w.heap.size+1) 0) 3 3 [u%B9,u/B9%B9,u/B9/B9] _ rfl Om Om HL.1 (Sl.afJ (w.alloc (Obj.cells #[.bool false,.slice none 0 0] dm)) 265 #[.int .u64 ((u%B9:Nat):Int),.int .u64 ((u/B9%B9:Nat):Int),.int .u64 ((u/B9/B9:Nat):Int)] _ Ou)).mono ?_;rintro e w' ⟨r,hr,rfl,hc,hv,hs,rfl⟩;have HV:=af (hv.trans HL.2);have HB:=af (hB.ext ((aB _).alloc (Obj.cells #[.int .u64 ((u%B9:Nat):Int),.int .u64 ((u/B9%B9:Nat):Int),.int .u64 ((u/B9/B9:Nat):Int)] 265)));have HX:ah (Ext w ((w.alloc (Obj.cells #[.bool false,.slice none 0 0] dm)).alloc (Obj.cells #[.int .u64 ((u%B9:Nat):Int),.int .u64 ((u/B9%B9:Nat):Int),.int .u64 ((u/B9/B9:Nat):Int)] 265))):=((aB w).alloc _).alloc _;have HN:=af (eO.mk' hc HV hr hs);clear hB hv hs hc;go_wp2_with fail
 refine(rO _ _ u _ HN HF).mono ?_;rintro e w2 ⟨v2,rfl,hv2,hx2⟩;obtain⟨b2,A2,n2,c2',rfl,uE⟩:=hv2.parts;have iN:=af (HB.ext hx2);have bk:=af (HX.trans hx2);have k0:=iN.aF 0;have k1:=iN.aF 1;have k2:=iN.frozen 0;have k3:=iN.frozen 1;clear hv2 hx2;go_wp2;refine xC rfl rfl rfl iN.ae uE bk Om (fun v W' h1 h2=>⟨v,rfl,?_,h2⟩);have:=AY.ae;rw[hd] at this;rw[this] at h1;exact h1):=h
def m20(h:ar:=by simp only[eR,dX,dA,dl] at ho;subst ho;refine⟨rfl,rfl,fun w' hSw=> ?_⟩;have hs:=bK w' hSw;go_split_ands;go_simp):=h
def m21(h:ar:=by
 rintro e w1 ⟨rfl,h1,hb1⟩;obtain⟨hB,v,GK,hown,hne⟩:=h1;have c0:w1.cell? (aD b 0)=some (aI b 0):=by rw[Ca GK];rfl
 have c1:w1.cell? (aD b 1)=some v:=by rw[Ca GK];rfl
 go_wp2_with (at_builtin;refine Lib.wpList_append_own_string _ rfl _ _ 199 9 rfl B t8 i0 underlying199 underlying9 hi hz0 hz1 hz2 _ _ _ rfl hown s rfl ?c3 ?c4 ?c5 ?_)
 case c3=>unfold maxLen;omega
 case c4=>omega
 case c5=>have:=hb1.size;omega
 intro v' w2 hown' hgrow _;have hlt:b<w1.heap.size:=by
  rcases cA b w1.heap.size with h'|h'
  ·exact h'
  ·simp [wQ h'] at GK
 have hb2:w2.heap[b]? =some (.cells #[aI b 0,v] tB (0,0)):=(by rw[hgrow.block b hlt (fun e=>hne e.symm)];exact GK);have d0:w2.cell? (aD b 0)=some (aI b 0):=by rw[Ca hb2];rfl
 have d1:w2.cell? (aD b 1)=some v:=by rw[Ca hb2];rfl
 have f1:=Lib.frozen_of_heap hb2 1;obtain⟨ao,n',cap,rfl⟩:∃ao n' cap,v'= .slice ao n' cap:=by
  rcases hown'.2 with⟨hv,_⟩|⟨g,cap,cur,hv,_⟩
  ·exact⟨_,_,_,hv⟩
  ·exact⟨_,_,_,hv⟩
 go_wp2;go_ret2;refine⟨rfl,?_,?_⟩
 ·exact Lib.BuilderAt.put hB hb2 (bs':=bs++Lib.strCells s) (by simpa [Lib.strCells_length] using hown') Od
 ·exact(hb1.grown hgrow (by have:=hb1.size;omega) (fun k hk=>(hown.lt k hk).1)).setCell hB _):=h
def m22(h:ar:=by
 obtain⟨gl,ol,hA,jE⟩:=nO d_ df HX.k2;subst hA;obtain⟨hr,y,hy,hF,hwy⟩:=VB hl[k] (a8 df);have yF:=af (HG k);have fQ:=af (SR.abS (R:=D.R) (f:=wh) df (D.g v t));have Ph:hl[k]<D.T.length:=by rw[PN];exact hr
 obtain⟨gt,ot,A1,c1,hAt,GG,Hi,Kj⟩:=iO.get yo Ph;subst hAt;have K_:=af (aN.wb _ (j6.2 hr));have Pe:=aN.tl _ (a8 Ph);have Hc:=af (ou _ _ (aX hr));have P7:=af (OL _ _ _ (aX hr) (aX Ph));have s6:=af (aX hr);rw[tT hr] at hF;have hTX:bL D.T hl[k]=D.T[hl[k]]:=by unfold bL;rw[aX Ph];rfl
 rw[hTX] at hF hy K_;have e0:=HX.st.sx.cell HX.st.c0;have e1:=(HX.st.ex.cell (p:=aD D.jb 4) d6).trans vL;have e2:=(HX.st.ex.cell (p:=aD gt (ot+hl[k])) GG).trans Kj;have e3:=jE;obtain⟨-,hr1,hr2⟩:=bl Hi;clear jE Kj hTX;generalize D.T[hl[k]]=rows at*;generalize D.x.ay[hl[k]]=rl at*;generalize hl[k]=r at*;go_upto_region 7 with fail
 clear e0 e1 e2 e3;obtain⟨q,hq⟩:∃q:Rw->Bool,q=fun y=>eh (cW (bH D.p v) v) (put cur v t) (bZ rl.2) y.1:=⟨_,rfl⟩;have HQ:ah (∀y,q y=eh (cW (bH D.p v) v) (put cur v t) (bZ rl.2) y.1):=by rw[hq];exact fun _=>rfl
 rw[<-hq] at hF;have HF:=af hF;have XF:=af hwy;clear hq hF hwy;generalize D.R.mul (D.g v t) (D.R.prod (hl.take k) wh)=a0 at*;generalize wr=w4 at*;exact k22):=h
def m23(h:ar:=by
 intro us w3 hI hR _;have hP:nW w3 (us 0) x first:=hR 0 _ rfl
 obtain⟨nb,e1,BN,vP⟩:Dz x.ai W.heap.size (us 1) w3:=hR 1 _ rfl;obtain⟨sb,e2,BS,z7⟩:Dy x.ai W.heap.size (us 2) w3:=hR 2 _ rfl;obtain⟨kb,e3,BK,hkb⟩:DC W.heap.size (us 3) w3:=hR 3 _ rfl;obtain⟨pc,pk,ph,pA,pm,pn,e0⟩:=hP.parts;rw[e0] at hP;have HP:=af hP;have HN:=af BN;have HSb:=af BS;have HMb:=af BK;simp only[fc,e0,e1,e2,e3,Act.put,eo,d9,ep];have aJ:ah (I w3):=hI;have HI:=af (qp w3 hI);have hsz:W.heap.size<=w3.heap.size:=HI.1.size;clear hI hR e0 e1 e2 e3 hP BN BS BK;refine ax 13 33 ?_;refine aO 14 ?_;intro K hK;go_simp;refine hK.ae _ _ (fun _=>jh _ (HI.1.ext ((aB w3).alloc _)) (HI.2.ext ((aB w3).alloc _))) ?_;refine aR fun W4 dW BX=> ?_;have wJ:ah (aZ [pb] W W4/\dy x pb W4):=⟨HI.1.ext dW,HI.2.ext dW⟩;have bB:ah (I W4):=jh _ wJ.1 wJ.2;have HPf:=af (HP.keep (.jN dW.ae) (.jN dW.ae));have HNf:=af (HN.ext dW);have HSf:=af (HSb.ext dW);have HMf:=af (HMb.ext dW);have Ko:=HN.lt;have hsl:=HSb.lt;have df:=HMb.lt;have HC:=af ((gS (S:= [pb]) HX).trans wJ.1);clear hK;have aJ:=bB;refine ax 15 12 ?_;refine bY Ok ?_;have hwW:w.heap.size<=W.heap.size:=HX.size;go_wp2_with fail
 exact k23):=h
def m24(h:ar:=by
 rintro e w2 ⟨u,rfl,hu,hx⟩;obtain⟨a0,A0,a1,a2,b0,B0,b1,b2,rfl, -, -⟩:=hu.parts;have yQ:=af (BT.ext hx);obtain⟨k0,k1,k2,k3⟩:=yQ.four;obtain⟨f0,f1,f2,f3⟩:=yQ.fX;go_wp2_with fail
 exact rQ rfl rfl rfl yQ.ae hu fun v W' g1 g2=>⟨v,rfl,g1,(HX.trans hx).only g2 Om⟩):=h
def V'(h:ar:=by
 have HSn:=af (jh _ P2 mJ);refine aO 11 ?_;intro K hK;go_simp;refine hK.ae _ _ (fun _=>HSn.ae) ?_;clear hK b0 f0 K4 N4;refine aO 12 ?_;intro K hK;go_simp;refine hK.ae _ _ (fun _=>HSn.ae) ?_;refine bY Ok ?_;clear hK;have Bl:=af (BR.only P2 Om);have o0:=B4.aF 0;have r0:=Bl.aF 0;have f0:=Bl.frozen 0;have Kq:=Bl.lt;obtain⟨W5,hW5,B5,K5,N5⟩:=fM (i:=0) Bl.ae (aG q 0 x.ai x.ai);have mI:=af (mJ.past N5 Om);have mG:ah (Only g w W5):=((dM (g:=g) HX).trans P2.ae).fresh N5 Om;have HQ5:=af (HQ4.only N5 Om);clear K5 N5 D_;go_wp2_with fail
 exact Wh):=h
def m26(h:ar:=by
 have HIU:=af (fun(t:aC) (ht:t∈D.sB v cur)=>aN.wk.Wi hv ht);have jE:(D.sB v cur).length<=60:=acy aN.wk.hK;have AY:=af (fun i=>aN.wk.arZ hv HIU cur i);have Qw:ah (∀t∈D.sB v cur,D.G (dT D.x.ai D.p D.homes v) (60^(nT D.x.ai D.p D.homes v - 1)) (D.bT v t cur)):=fun t ht=>aN.wk.aer hv (HIU t ht) cur;have mH:=af (fun i (hi:i<60)=>aN.wk.ar0 hv a12 hi);have cF:ah (D.vT v cur=D.R.sum (D.sB v cur) fun t=>D.bT v t cur):=aN.wk.step hv cur;have Qx:=af (fun(t:aC) (e:Nat->aC) (h:∀a,bH D.p v a=true->e a=cur a)=>aN.aeX (t:=t) hv h);have Qt:ah (∀e:Nat->aC,(∀a,bH D.p v a=true->e a=cur a)->D.sB v e=D.sB v cur):=fun e h=>RM h;have vW:dT D.x.ai D.p D.homes v<=40:=(by have h1:=(aN.wk.KU hv).2;have h2:=aN.r6;omega)
 generalize dT D.x.ai.length D.p D.homes v=dg at*;generalize 60^(nT D.x.ai.length D.p D.homes v - 1)=pw at*;have VG:ah (io (bu D.x) (bL D.T) (bM D.x) D.fx (bH D.p v) cur v=D.sB v cur):=rfl;rw[VG.ae] at tu;generalize D.sB v cur=cb at*;go_wp2_with fail
 refine tu.mono ?_;rintro e9 w9 ⟨Ac,cc,tc,rfl,atT,atS,hcb,ag1,zP⟩;have nD:=af (eQ.sB aN ag1 zP);exact k26):=h
def m27(h:ar:=by
 rw[mK.ae] at Hy;refine jM 5 Ok ?_;intro o' ho K hK;simp only[eR,dX,dA,dl] at ho;subst ho;refine nV rfl ?_;refine NB _ _ cK rfl nb jo _ _ _ rfl (Tn Hy (aL _)) ⟨g,0,none⟩ lf c3 (eU (ints lf)) rfl (by unfold eU;rw[bP,Ev.ae,lF]) (aqw pG) (fun u hu=>by obtain⟨a,_,rfl⟩:=b_.1 hu;rfl) (show(1+lf.length)*8<=140737488355328 by omega) (rJ Hy.lt) ?_;intro v7 w7 qV WW _;obtain⟨A7,c7,rfl,_,_,_⟩:=eL qV;have yE:=af (ap8 qV);have lz:=af (kI f_ (Tn Hy (aL _)) WW Om);have QG:=af (gK L9 (Tn Hy (aL _)) WW Om);refine hK.ae _ _ (fun _=>QG.aF 0) ?_;clear hK qV WW;have aJ:ah (w7.cell? ⟨w.heap.size,0,none⟩=some (.int .i64 first)):=QG.aF 0;refine ax 6 7 ?_;refine bY Ok ?_;go_wp2_with fail
 go_meet;exact⟨_,_,fn::lf,by rw[cT,nL],yE,AZ,X4,lz⟩):=h
def m28(h:ar:=by
 obtain⟨W9,AE,dQ,lA⟩:=kr.Dn aN hv false;rw[S8,Tq vD] at dQ;have hcs:=(kr.st.sc.cell (qC (on:=cW (bH D.p v) v) hv));have qX:=kr.st.sc.frozen v;have hst:=kr.st.st;have jZ:=af (Bf.only lA (.inl Ou));have YQ:=af (wu.far lA Om (kr.Uy lA));have qs:=af (Y2.only lA Om);have Bh:ah (∀a,bH D.p v a=true->cu a=cur a):=fun a ha=>by rw[HA.ae a (by unfold cW;rw[ha,Ry])];unfold put;rw[if_neg fun e=>by rw[e,vD] at ha;cases ha]
 clear kr wu Bf lA HA Y2;obtain⟨o0,O0,o1,o2,p0,P0,p1,p2,BO,VO⟩:=YQ.parts;obtain⟨q0,q1,q2,q3⟩:=BO.four;obtain⟨f0,f1,f2,f3⟩:=qs.fX;obtain⟨j0,j1,j2,j3⟩:=qs.four;go_wp2_with fail;exact rQ rfl rfl rfl qs.ae VO (fun u W' h1 h2=>⟨u,cu,rfl,by rw[hF];exact h1,dQ.past aN h2 qs Od Om Om Om Om Om,Bh,jZ.only h2 (.inr (aL _))⟩)):=h
def m29(h:ar:=by
 have vD:=ok.self hv;have a12:D.x.ai.length<=12:=ok.a12;have aN:=af ok;have HB:=af hB;have hia:=ok.ring.ia;have HST:=af h;have hvN:v<D.x.ai.length:=hv;obtain⟨_,kb',_,_,_,_,k2,_,_,_,wH,_,_⟩:=ok.pl;obtain⟨Ak,dk,lR,Ql,_⟩:=NL wH (ok.ks v hv);have Et:ah (∀a∈D.key v,(0:UInt8)∉cur a/\cur a∈D.U):=fun a ha=>by have h1:=vX a (ok.ka v hv a ha).1;exact⟨(ok.u0 _ h1).1,h1⟩
 have Hl:ah (∀a∈D.key v,a<D.x.ai/\(cur a).length<=1000):=fun a ha=>⟨(ok.ka v hv a ha).2,(ok.u0 _ (vX a (ok.ka v hv a ha).1)).2⟩;have df:=ok.kl v hv;have lB:ah (∀k,(UInt8.ofNat v::kf (((D.key v).take k).map cur)).length<=5006):=fun k=>by
  have h1:=adr (l:=((D.key v).take k).map cur) fun t ht=>by obtain⟨a,ha,rfl⟩:=b_.1 ht;exact(Hl a (nJ ha)).2
  rw[bP,cO] at h1;rw[cT];omega
 have Yd:ah (UInt8.ofNat v::kf (((D.key v).take (D.key v)).map cur)=m_ v (D.key v) cur):=by rw[ah,fB];rfl
 have O_:IntKind.u8.wrap (v:Int)=(v:Int):=by rw[IntKind.wrap_u8];omega
 have xO:=(bl Ql).2;have Hq:=af vX;exact k29):=h
def m30(h:ar:=by
 obtain⟨gl,ol,hA,jE⟩:=nO Ql Am (HST.fL aN cD).k2;subst hA;have bB:=af (HST.fL aN cD);obtain⟨hka,lR⟩:=Hl _ (a8 Am);have e3:=jE;have e4:=bB.st.nw;have e5:=bB.st.nc.cell (M0 (cur:=cur) hka);have HNS:ah (UInt8.ofNat v::kf ((kl.take (k+1)).map cur)=(UInt8.ofNat v::kf ((kl.take k).map cur))++(cur kl[k]++ [0])):=(by rw[ah,fR Am,kE,Il,amA,nK])
 have Ko:=lB k;generalize UInt8.ofNat v::kf ((kl.take k).map cur)=nm at*;generalize kl[k]=a at*;generalize cur a=t at*;have atV:∀w,(Op.stringOp .add ⟨t.toArray⟩ ⟨#[0]⟩).run prog w= .ok (aM (t++ [0])) w:=fun w=>Ua t [0] w (by rw[gc];omega);have hsz:w.heap.size<=wr.heap.size:=cD.size;have CW:=af (acL w.heap.size w.heap.size (byteCells nm) ⟨(t++ [0]).toArray⟩ wr jJ (by rw[byteCells_length];simp [ByteArray.size];omega) hsz);have auM:ah (byteCells (UInt8.ofNat v::kf ((kl.take (k+1)).map cur))=byteCells nm++strCells ⟨(t++ [0]).toArray⟩):=by rw[ah,HNS.ae,byteCells_append];rfl
 exact k30):=h
def m31(h:ar:=by
 have c10:=bk.st.sx.cell ok.cl;have Yq:=af fun(h:Nat) (hh:h∈D.homes v)=>ok.wk.home hv ht hh;obtain⟨cb,_,hb,_,_,k1,_,k3,_,HLC,_,HLH,_⟩:=ok.pl;obtain⟨Ah,dh,hhc,d_,_⟩:=NL HLH (ok.hs v hv);obtain⟨Ac,dc,hcc,HIC,_⟩:=NL HLC (ok.ch v hv);have ahq:=af (ank (v:=v) (P:=fun z=>z∈D.U) Wv vX);have Hs:ah (D.bT v t cur=D.R.mul (D.R.mul (D.g v t) (D.R.prod (D.homes v) fun h=>hW D.R D.x D.T D.wt h (put cur v t))) (D.R.prod (kids D.dB D.p (some v)) fun c=>D.vT c (put cur v t))):=rfl;have HG:=af (ok.wk.aeU hv Wv (put cur v t));have Be:=af (ok.wk.arz hv Wv (put cur v t) ok.a12 ok.r6);have LH:=af (fun(c:Nat) (hc:c∈kids D.dB D.p (some v))=>ig.1 hc);have Ai:(D.homes v).length<=18:=(by have h1:=(ok.wk.JC (v:=v) 0).1;have h2:=(ok.wk.KU hv).2;have h3:=ok.r6;have h4:=ok.a12;have:D.dB=D.x.ai.length:=rfl;omega)
 obtain⟨At,ct,vL,yo⟩:=h.st.ly.tb;have d6:=h.st.ly.jl;obtain⟨-,ht2,ht3⟩:=bl yo;have PN:=h.st.ly.ok.len;have ou:=af h.st.ly.ok.ra;have OL:=af h.st.ly.ok.rl;have hlc:=(bl d_).2;have hlk:=(bl HIC).2;exact k31):=h
def m32(h:ar:=by
 obtain⟨A,c,B,d,Dd,e,rfl,ha,gL,hf⟩:=h;obtain⟨-,ha1,ha2⟩:=bl ha;obtain⟨-,jf,lw⟩:=bl gL;obtain⟨vQ,ag4,ahp⟩:=bl hl;subst vQ;have HA:=af ha;have HR:=af gL;have HL:=af hl;have HT:=af ht;have aN:=af ok;have gp:i<x.ay.length:=by
  rcases cA i x.ay with h|h
  ·exact h
  ·rw[eT h] at hr;cases hr
 have kQ:x.ay[i]=r:=ayj;have s6:=af kQ;obtain⟨rn,cs⟩:=r;have jE:cs.length<=12:=by
  have hm:=a8 gp;rw[kQ] at hm;rcases FR (k:=0) (n:=x.ai) (ok.ra _ hm) (ok.ri _ hm) with h1|h1
  ·simp only at h1;rw[h1];simp
  ·have:=ok.a12;simp only at h1;omega
 have gC:ah (∀a∈cs,0<=a/\a<x.ai):=(by have hm:=a8 gp;rw[kQ] at hm;exact ok.ri _ hm);simp only at HT;have hlen:=ht.len;have r6:=ok.r6;obtain⟨RN,qi⟩:∃RN,x.ay.length=RN:=⟨_,rfl⟩;have jW:=af qi;have WP:i<RN:=Om;rw[qi] at jf HR r6 CH HV⊢;obtain⟨AN,GR⟩:∃AN,x.ai.length=AN:=⟨_,rfl⟩;have uO:=af GR;rw[GR] at ha1 HA CH HV gC⊢;exact k32):=h
def m33(h:ar:=by
 rcases Mo a[k] b[k] with h|h|h
 ·have HV:ah (eM (val a) (val b)= -1):=Da (aab CA.1 HL k hk h HD);go_wp2;go_quiet (fail);go_wp2;rw[HV.ae];go_ret;exact⟨rfl,JF _ _ _⟩
 ·have HE:=af h;have h1:¬a[k]<b[k]:=Om;have h2:¬b[k]<a[k]:=Om;clear h;go_wp2;go_quiet (fail);go_wp2;go_quiet (fail);go_wp2;go_roundw
  ·refine⟨(k:Int) - 1,by go_num,by omega,by omega,?_,_,rfl⟩;have e1:((k:Int) - 1+1).toNat=k:=Om;have e2:((k:Int)+1).toNat=k+1:=Om;have:=HD.ae;rw[e2] at this;rw[e1,jK hk,jK vR,this,HE.ae]
  simp [intOf]
 ·have HV:ah (eM (val a) (val b)=1):=NS (aab CB.1 HL.symm k vR h HD.symm);have h1:¬a[k]<b[k]:=Om;go_wp2;go_quiet (fail);go_wp2;go_quiet (fail);go_wp2;rw[HV.ae];go_ret;exact⟨rfl,UF _ _ _ _⟩):=h
def m34(h:ar:=by
 obtain⟨g1,o1,rfl,q1⟩:=nO (HK.ext HX) vU (jp aS wr);have qd:=tj _ (a8 vU);have yt:=af (aj' vU qd);obtain⟨g2,o2,rfl,hg2,q2⟩:=rX (eB HT HX) qd;generalize vs[ks[i]]=t at*;generalize ks[i]=k at*;have hw:=HX.size;have dC:((gZ vs (ks.take i)).length+1)*16<=140737488355328:=Om;have pB:=af hpl;clear hpl;go_wp2_with (at_builtin;refine gf rfl _ _ nS rfl w.heap.size str_slice _ _ _ rfl HR.ae #[aM t] 1 1 rfl rfl rfl dC hw ?_)
 intro v' sH qN oV _;have pd:=af (iF (R:=i3) (x:=t) jO Oe HR HC rfl qN oV);have Ed:=af (kI HX HR oV (aL _));clear qN oV;go_wp2_with fail
 go_roundw;exact⟨i+1,by omega,by go_num,by rw[yt.ae];exact pd,Ed⟩;simp [RowKit.intOf];omega):=h
def Kc(h:ar:=by
 go_upto_region 1 with fail
 refine aR fun W HX BX=> ?_;have YY:=af (CH W HX);obtain⟨s0,s1,s2,s3⟩:=BX.four;go_wp2_with fail
 refine YY.mono ?_;rintro e1 w1 ⟨rfl,hx1⟩;exact Kd):=h
def m36(h:ar:=by obtain⟨j,hj,hjs⟩:=Option.map_eq_some_iff.1 Tryz.BH.sizeBuilder;go_enter func193,ntmps193;go_wp2;rw[Lib.run_to_unsafe w ⟨b,0,none⟩ underlying198 underlying308 hj (by rw[hjs];decide) Ww (Nat.zero_lt_succ 1)];simp only[Result.andThen];rw[ZW];go_wp2;rw[run_callFunc_extern func248 Ok Ok Ok Ok];rw[Lib.run_noEscape];simp only[Result.andThen];rw[ZW];go_wp2;rw[Lib.run_from_unsafe w ⟨b,0,none⟩ underlying308 underlying198 hj Ww Tryz.BH.liesBuilder];simp only[Result.andThen];rw[ZW];go_wp2;go_end0;exact⟨rfl,rfl⟩):=h
def m37(h:ar:=by
 obtain⟨W9,AE,dQ,lA⟩:=kr.Dn aN hv false;rw[S8,Tq vD] at dQ;have hcs:=(kr.st.sc.cell (qC (on:=cW (bH D.p v) v) hv));have qX:=kr.st.sc.frozen v;have hst:=kr.st.st;have ym:=af (aN.ring.vk wu (kr.Uy lA));have jZ:=af (Bf.only lA (.inl Ou));have Bh:ah (∀a,bH D.p v a=true->cu a=cur a):=fun a ha=>by rw[HA.ae a (by unfold cW;rw[ha,Ry])];unfold put;rw[if_neg fun e=>by rw[e,vD] at ha;cases ha]
 go_wp2_with fail
 exact bodyPost_ret (v:=u) (by simp [results,results236,go_sem]) rfl (by first|exact⟨u,rfl,ym,cu,dQ,Bh,jZ⟩|exact⟨u,cu,rfl,ym,dQ,Bh,jZ⟩)):=h
def OX(h:ar:=by
 have yL:ah (∀k,k<j+1->P k=false):=fun k hk=>by
  rcases cA k j with h|h
  ·exact HB k h
  ·rw[show k=j by omega];exact hp
 go_wp2;go_roundw;exact⟨j+1,by omega,by go_num,nH,yL⟩;simp [RowKit.intOf];omega):=h
def m40(h:ar:=by
 have HE:=af (cE.trans jg);obtain⟨gl,ol,Bk,dk,hA0,mE,dZ,eY,G9⟩:=zC (zD HL HE) df;have pB:ah (∀w',Ext w w'->∀q (hq:q<l.length),∃Bq dq,gl<w'.heap.size/\aA w' gl (ol+q*2) (.slice Bq l[q].1.length dq)/\ah (TL w' (.slice Bq l[q].1.length dq) l[q].1)):=fun w' hx q hq=>by obtain⟨g',o',Bq,dq,e',vV,h1,_,h2⟩:=zC (zD HL hx) hq;rw[hA0] at e';injection e' with e';injection e' with e1 e2;subst e1 e2;exact⟨Bq,dq,vV,h1,h2⟩
 subst hA0;have G1:=af (HT.val _ (a8 df));obtain⟨zX,hw2⟩:=HT.wt _ (a8 df);have HLT:ah (∀q (hq:q+1<l.length),dU l[q].1 l[q+1].1=true):=fun q hq=>HT.lt hq;obtain⟨y,hy⟩:∃y,y=l[k]:=⟨_,rfl⟩;have HY:=af hy;rw[<-hy] at dZ eY G9 G1 zX hw2;exact k40):=h
def Gm(h:ar:=by simp only[eR,dX,dA,dl] at ho;subst ho;simp only[fc];go_simp;have ku:=HK.ae;simp only[fc,Act.put,eo,d9,ep] at ku;exact Gn):=h
def m42(h:ar:=by
 clear b0 b1;obtain⟨wo,nu⟩:∃wo:World,wo=w4:=⟨_,rfl⟩;have P5:ah (Ext wo w4):=by rw[nu];exact aB _
 have Hz:ah (aq wo (w.heap.size+1) bF [.bool DM,aG gY oY (n0+1) cb]):=by rw[nu];exact Hz
 have LC:ah (p8 wo (w.heap.size+1+1+1+1+1) (aG gR oR n2 c1) R1):=by rw[nu];exact LC
 have Hg:ah (iC wo (aG gR oR n2 c1) R1):=by rw[nu];exact Hg
 have DF:ah (aq wo (w.heap.size+1+1+1+1) tI (ed (List.replicate (k+1) 0++q))):=by rw[nu];exact DF
 have DG:ah (Below (w.heap.size+1+1+1+1) W wo):=by rw[nu];exact DG
 have Gi:ah (iC wo (aG gY oY (n0+1) cb) Y):=by rw[nu];exact Gi
 have atn:w.heap.size+1+1+1+1+1<=wo.heap.size:=by have:=DF.lt;omega
 clear nu;exact k42):=h
def Kb(h:ar:=by
 go_wp2_with fail
 refine bodyPost_ret (v:= .bool true) ax_ rfl ?_;exact .inr ⟨rfl,HP,sX⟩):=h
def m44(h:ar:=by intro K hK;go_simp;refine CM.mono ?_;rintro e6 w6 ⟨u6,rfl,qT,jS⟩;obtain⟨r0,R0,r1,r2,s0,S0,s1,s2,rfl,_,_⟩:=qT.parts;have dR:=af (d8.fL aN jS);have rv:=af (mL.ext jS);have uT:=af (Bn.ext jS);have qu:=af (wN.ext jS);have aJ:ah (aq w6 D.xb D.tX D.cs/\aq w6 ob cY [.bool o0,.slice O0 o1 o2,.bool p0,.slice P0 p1 p2]):=⟨dR.st.sx,uT⟩;refine hK.ae _ _ (fun _=>aJ.ae) ?_;obtain⟨k0,k1,k2,k3⟩:=uT.four;obtain⟨f0,f1,f2,f3⟩:=uT.fX;obtain⟨W',hW',tx,_,_,jY⟩:=dI.put uT qT dR.st.ex Om;have HW:=af hW';have po:=af (dR.past aN jY uT Od Om Om Om Om Om);exact k44):=h
def m45(h:ar:=by have bS:ah (Ext W2 (W2.drewN nq).drew):=((aB W2).drewN nq).drew;generalize hW3:W2.drewN nq=W3 at*;clear hW3;have fJ:=af (ey.ext k6 bS);have cE:=af (bk.trans bS);have XR:=af (eB py bS);have nE:=af (xm nG bS);have bK:ah (∀w',Ext W3.drew w'->aA w' bx 0 (.slice Bi xv di)/\aA w' bx 1 (av xw)):=fun w' hx=>((mO.ext bS).ext hx).two;have aJ:ah (Ext W3.drew W3.drew):=aB _;refine cG (S:=fun w'=>Ext W3.drew w') (T:=fun j=>decide (9<=j)) Ok ?_;generalize W3.drew=wd at*;have lR:k<=co:=Om;refine ax 0 56 ?_;refine ax 1 57 ?_;refine ax 2 58 ?_;refine ax 3 59 ?_;refine ax 5 61 ?_;refine ax 6 62 ?_;exact k45):=h
def m46(h:ar:=by
 obtain⟨gl,ol,hA,jE⟩:=nO d_ df HX.k2;subst hA;obtain⟨s1,j1,s2,j2,m1,m2,m3,m4,m5⟩:=HGM k df;have Bd:=af m4;have wG:=af m5;have fQ:ah (D.R.prod (rl.take (k+1)) (fun c=>D.vT c fun _=> [])=D.R.mul (D.R.prod (rl.take k) fun c=>D.vT c fun _=> []) (D.vT rl[k] fun _=> [])):=by rw[ah,fR df,SR.abT]
 obtain⟨lx,iZ⟩:=LH _ (a8 df);have KH:bH D.p rl[k]=fun _=>false:=funext fun a=>Jf iZ;have uO:=af KH;have G5:=af (HV _ lx);have AU:ah (∀cu,D.vT rl[k] cu=D.vT rl[k] fun _=> []):=fun cu=>aN.kv _ lx _ _ fun a ha=>by have h1:=(aN.ka _ lx a ha).1;rw[KH] at h1;cases h1
 have e3:=jE;exact k46):=h
def m47(h:ar:=by
 obtain⟨gr,og,Bk,dk,ko,hgr,lQ,sP,sZ⟩:=zC Hi d6;subst ko;have dZ:=(HX.st.ex.cell (p:=aD gr (og+j*2)) hgr).trans lQ;have eY:=(HX.st.ex.cell (p:=aD gr (og+j*2+1)) hgr).trans sP;have Hu:=af (apb (q:=q) d6);have jY:=af (fun h=>ad8 HF d6 h);have Ei:=af (K_ _ (a8 d6));have XT:=af (P7 _ (a8 d6));have Lx:=af (HQ rows[j]);clear lQ sP;generalize rows[j]=yy at*;obtain⟨yv,yw⟩:=yy;simp only at dZ eY sZ Ei XT Lx;go_upto_region 9 with fail
 refine aR fun W6 dR BY=> ?_;have f_:=af (HX.fL aN dR);have LV:=af (HC.ext dR);exact k47):=h
def m48(h:ar:=by
 go_loop [4] (fun v4=>∃k:Nat,k<=S.size/\v4= .int .i64 k) (fun v4=>S.size - (RowKit.intOf v4).toNat)
 exact⟨0,aU _,rfl⟩;obtain⟨k,hk,rfl⟩:=hrel;by_cases hlt:k<S.size
 ·have vW:=ah5 k hlt;have hx1:¬(S[k].toNat:Int)<48:=Om;have hx2:¬(57:Int)<S[k].toNat:=Om;clear vW;go_wp2;go_round;exact⟨k+1,by omega,by go_num⟩;simp [RowKit.intOf];omega
 ·go_wp2;go_ret;exact⟨rfl,rfl⟩):=h
def m49(h:ar:=by have awW:=ey.frozenAt (k+1);have Ai:=CA.1.getD (k+1);unfold B9 at Ai;have fJ:=af (ey.stored (k+1) (.int .i64 ((limb a (k+1):Int) - 1))).1;rw[aih hr1 lm] at fJ;generalize limb a (k+1)=y1 at*;have tD:=af ko;have G2:=af Eb;clear hA ko x7 PO;go_wp2;go_roundw;exact⟨k+1,1,r++ [T],by omega,by go_num,aL _,by omega,hr1,HD.snoc GP,tD,fJ,(cD.setCell (p:=aD g k) hgb _).setCell (p:=aD g (k+1)) hgb _⟩;simp [RowKit.intOf];omega):=h
def m50(h:ar:=by
 go_wp2_with (at_builtin;refine gf rfl _ _ nS rfl w5.heap.size str_slice _ _ _ rfl i4.ae _ 1 1 rfl rfl rfl dC hz9 ?_)
 intro v' sH qN oV _;obtain⟨QL,c10,rfl,_,_,_⟩:=eL qN;have pd:=af (iF (R:=i3) jO Oe i4 tk rfl qN oV);have Ed:=af (kI YV i4 oV (aL _));clear qN oV;go_wp2;go_roundw;exact⟨j+1,by omega,by go_num,by rw[OM.ae];exact pd,Ed⟩;simp [RowKit.intOf];omega):=h
def m51(h:ar:=by
 go_upto_region 1 with fail
 refine gJ fun W HX BX BF=> ?_;have hbf:=BF.lt;obtain⟨s0,s1,s2,s3⟩:=BX.four;have f0:=BF.aF 0;have p1:=(HX.cell (p:=aD g (o+fa*2)) hg).trans q1;have p2:=(HX.cell (p:=aD g (o+fa*2+1)) hg).trans q2;go_upto_region 2 with fail
 refine aR fun W2 bk BA=> ?_;have BF2:=af (BF.ext bk);have sX:=af (HX.trans bk);generalize W.heap.size=ab at*;generalize w.heap.size+1=fb at*;have a0:=BA.aF 0;have a1:=BA.aF 1;have f1:=BF2.aF 1;have f2:=BF2.aF 2;exact k51):=h
def m53(h:ar:=by
 have h2:=R9 hc 4 j h1 (fun o' Pp e he hb=>by rw[ho] at Pp;injection Pp with Pp;subst Pp;exact hall e he hb);rcases cA i listed.size with hl|hl
 ·simp [hl] at hu h2;rw[hu] at h2;cases h2
 ·simp [wQ hl] at h2):=h
def m54(h:ar:=by
 have h:=TJ (g:=fun v x=>if cH fx v x=true then lift v x else 0) (W:=mf at_ tab) (a:=a) (B:=B) (M:=M) hK (fun t=>by
  show cC B M (if cH fx a t=true then lift a t else 0)
  split
  ·exact ha t
  ·exact zw _ _) (fun v t hv=>by
  show cC 1 1 (if cH fx v t=true then lift v t else 0)
  split
  ·exact hb v t hv
  ·exact zw _ _) (fun h e=>by
  show cC 1 c (fH cX at_ tab (fun w=>(w:Rat)) h e)
  unfold fH;split
  ·rename_i y hy;refine⟨y.2,?_,hW h y (R4 hy).1⟩;rw[show((1:Nat):Int)=1 from rfl,show((1:Int):Rat)=1 from rfl,E9]
  ·exact zw _ _) f env
 exact k54):=h
def m55(h:ar:=by have cE:=af (HX.trans (hx1.trans (hx2.trans hx3)));have nE:=af (HR.ext (hx1.trans (hx2.trans hx3)));have HF:ah (bQ w3 (.agg #[.bool b2,.slice A2 n2 c2,.bool b3,.slice A3 n3 c3]) q):= .mk' (uE.ext hx3) (by rw[H1.ae];exact G7);obtain⟨k0,k1,k2,k3⟩:=nE.four;obtain⟨f0,f1,f2,f3⟩:=nE.fX;clear hx1 hx2 hx3 hv2 hv3;go_wp2;exact zr rfl rfl rfl nE.ae HF cE (aL _) (fun v W' h1 h2=>⟨v,rfl,h1,h2⟩)):=h
def V9(h:ar:=by go_enter func203,ntmps203;go_wp2_with fail;refine H1.mono ?_;rintro e w1 ⟨rfl,rfl⟩;go_wp2_with fail;refine H2.mono ?_;rintro e w1 ⟨rfl,rfl⟩;go_wp2;go_ret;exact⟨by rw[HC.ae];rfl,rfl⟩):=h
def m57(h:ar:=by
 have htq:t/B9<1000000000:=axp;have htp:t%B9<1000000000:=fC _ Od;have qq:=af (HD.snoc (x:=t%B9) (fC _ Od));generalize t%B9=p at*;generalize t/B9=q at*;go_wp2_with (at_builtin;refine gf rfl _ _ ui rfl w.heap.size jo _ _ _ rfl HO.ae #[av (p:Int)] 1 1 rfl rfl rfl Om HX.size ?_)
 intro v' w3 fu hg3 _;have cE:ah (Ext w w3):=qB HX hg3 HX.size (fun k hk=>(HO.lt k hk).1);have fJ:ah (w3.ownsRow w.heap.size tI 1 v' (k+1) (ed (r++ [p]))):=by rw[ah,Cs];exact fu
 clear fu hg3 dZ;go_wp2;exact k57):=h
def m58(h:ar:=by
 go_upto_region 1 with fail
 refine aR fun W HX BR=> ?_;have hbr:=BR.lt;have j0:=(HJ.ext HX).aF 0;go_upto_region 2 with fail
 clear j0;have HMW:=af (HM.ext HX);have HBW:=af (Hm.ext HX);have BRd:=af BR.drew;obtain⟨I,GQ⟩:∃I:World->Prop,I=fun w'=>aZ [pb] W w'/\dy x pb w':=⟨_,rfl⟩;have qp:ah (∀w',I w'->aZ [pb] W w'/\dy x pb w'):=ayo;have jh:ah (∀w',aZ [pb] W w'->dy x pb w'->I w'):=by rw[ah,GQ];exact fun _ h1 h2=>⟨h1,h2⟩
 exact k58):=h
def m59(h:ar:=by
 go_wp2_with fail
 refine CV.mono ?_;rintro e7 w7 ⟨t,ht,rfl,qb,qV⟩;have HT:=af ht;have LX:=af (pG.only qV Om);have k1:=LX.aF 1;have k2:=LX.aF 2;have f2:=LX.frozen 2;have WG:=LX.lt;obtain⟨W8,Xf,B8,K8,N8⟩:=fM (i:=2) LX.ae (aM t);have eQ:=af (qb.past N8 Om);have KZ:=af ((pg.trans qV).fresh N8 KB);have wO:=af ((pK.only qV hbg.2).only N8.ae Om);clear ht qb qV c0 c1 s0 s1 s2 s3 f1 K8 N8;go_upto_region 8 with fail
 clear k1 k2 f2;have k1:=B8.aF 1;exact k59):=h
def Gl(h:ar:=by go_roundw;exact⟨i+1,by omega,by go_num,jg⟩;simp [RowKit.intOf];omega):=h
def V8(h:ar:=by
 go_wp2_with fail
 refine FC.mono ?_;rintro e w4 ⟨rfl,iL⟩;have dW:=af (Gh.trans iL);go_wp2_with fail
 go_roundw;exact⟨i+1,by omega,by go_num,dW⟩;simp [RowKit.intOf];omega):=h
def OW(h:ar:=by
 go_wp2_with fail
 go_roundw;exact⟨k+1,by omega,by go_num,jG⟩;simp [RowKit.intOf];omega):=h
def m64(h:ar:=by have hb:=ox w' h;first|exact⟨hb.aF 0,hb.aF 1,hb.aF 2,hb.aF 3,hb.aF 4⟩|exact⟨hb.aF 0,hb.aF 1,hb.aF 2,hb.aF 3,hb.aF 4,hb.aF 5,hb.aF 6,hb.aF 7,hb.aF 8,hb.aF 9,hb.aF 10⟩):=h
def m65(h:ar:=by
 obtain⟨d,r⟩:=hpl.UQ;have w:=hpl.arq r hne hlt;have hu:∀b,(none:Option Nat)=some b->b<n:=fun b h=>by cases h
 have hk:n<=n+f9 d none:=Mq _ _;have Wq:∀v,v∈(et n q (fun v=>hl.filter fun t=>eZ d (at_ t) ((at_ t).headD 0)==v) n none).vars↔v<n:=fun v=>by rw[wX r n none v hu hk];exact⟨fun h=>h.1,fun h=>⟨h,dF.all r (d v) v h (aL _)⟩⟩
 have Pb:=Iu (homes:=fun v=>hl.filter fun t=>eZ d (at_ t) ((at_ t).headD 0)==v) r n none hu hk;exact k65):=h
def m66(h:ar:=by
 obtain⟨pr,DT⟩:∃pr:Nat->Bool,pr=fun k=>(l[k]?.map Q).getD false:=⟨_,rfl⟩;have DW:∀k (hk:k<l.length),pr k=Q l[k]:=fun k hk=>by rw[DT];simp only[aX hk];rfl
 have AC:∀W k,aq W g bC (l.map (fun v:aC=>Value.string ⟨v.toArray⟩)++rest)->(hk:k<l.length)->W.cell? ⟨g,k,none⟩=some ((fun v:aC=>Value.string ⟨v.toArray⟩) l[k]):=fun W k h hk=>h.cell (by rw[oD (by rw[bP];exact hk),dK,aX hk];rfl);exact k66):=h
def m67(h:ar:=by
 go_wp2_with fail
 refine(ale w.heap.size w.heap.size [] (v:Int) W tC Ou hsz).mono ?_;rintro e1 w1 ⟨rfl,hb1,hx1⟩;have jJ:ah (IsBuilder tB t8 w.heap.size w.heap.size (byteCells (UInt8.ofNat v::kf ((kl.take 0).map cur))) w1):=by rw[ah,kG];rw[show(UInt8.ofNat v::kf (([]:List Nat).map cur))= [UInt8.ofNat v] from rfl,ak3 Om];exact .inr hb1
 have cD:ah (Ext w w1):=pQ HX hx1;have bB:=af (HST.fL aN cD);have c2:=bB.st.sx.cell k2;have ck2:=lR _ bB.k1;exact k67):=h
def m68(h:ar:=by obtain⟨gl,ol,Xr,jE⟩:=nO HIC df HX.k2;subst Xr;obtain⟨⟨sz,jz,z1,z2,z3⟩,hM⟩:=Be k;obtain⟨s1,j1,s2,j2,m1,m2,m3,m4,m5⟩:=hM df;have Bd:=af m4;have wG:=af m5;have fQ:=af (SR.abS (R:=D.R) (f:=fun c=>D.vT c (put cur v t)) df b0);have HST:=af (fun h=>SR.alR (R:=D.R) (f:=fun c=>D.vT c (put cur v t)) (l:=kl) (i:=k) (b:=b0) h);have G5:=af (HV _ (a8 df));obtain⟨lx,iZ⟩:=LH _ (a8 df);have e3:=jE;exact k68):=h
def m69(h:ar:=by have hz:je (fun _=>false) 0= -1:=rfl;rw[hz] at CI;go_enter func233,ntmps233;go_wp2_with fail;refine CI.mono ?_;rintro e w' ⟨rfl,rfl⟩;go_wp2;exact bodyPost_ret (v:= .slice A 0 c) ax8 rfl ⟨rfl,rfl⟩):=h
def m70(h:ar:=by
 rintro e w2 ⟨u,rfl,hu,hx⟩;obtain⟨a0,A0,a1,a2,b0,B0,b1,b2,rfl, -, -⟩:=hu.parts;have yQ:=af (BT.ext hx);obtain⟨k0,k1,k2,k3⟩:=yQ.four;obtain⟨f0,f1,f2,f3⟩:=yQ.fX;go_wp2_with fail
 refine rQ rfl rfl rfl yQ.ae hu fun v W' g1 g2=>⟨v,rfl,?_,(HX.trans hx).only g2 Om⟩;simpa using g1):=h
def V7(h:ar:=by
 skip
 have k0:=pG.aF 0;have k1:=pG.aF 1;have k2:=pG.aF 2;have f0:=pK.frozen 0;have f1:=pK.frozen 1;have f2:=pK.frozen 2;have r0:=pK.aF 0;have r1:=pK.aF 1;have r2:=pK.aF 2;have Kq:=pK.lt;exact We):=h
def m72(h:ar:=by
 obtain⟨g,rest,Xr,sT,sV⟩:=ru (fun e=>by rw[e] at lR;exact absurd lR (Mu _));subst Xr;have PQ:=sV.bX HC axn;have hcell:(cb.map encStr++rest)[k]? =some (aM cb[k]):=(by rw[oD (by rw[bP];exact lR),dK,aX lR];rfl)
 have e3:=PQ.cell hcell;have hm:=a8 lR;have fQ:=af (SR.Fq (R:=D.R) (f:=fun t=>D.bT v t cur) lR);exact k72):=h
def V6(h:ar:=by refine bodyPost_ret (v:= .bool false) ax_ rfl ?_;exact .inl ⟨rfl,fun h=>absurd (HF.2 h) Ou,sX⟩):=h
def m74(h:ar:=by refine ax 0 91 ?_;refine ax 1 92 ?_;refine ax 2 93 ?_;refine ax 3 94 ?_;refine ax 4 95 ?_;refine ax 5 96 ?_;refine ax 6 97 ?_;refine ax 7 98 ?_;refine ax 8 99 ?_;refine bY Ok ?_;go_wp2;go_roundw;exact⟨j+1,by omega,by go_num,by rw[qq.ae],yG⟩;simp [RowKit.intOf];omega):=h
def m75(h:ar:=by generalize w7.drew=wd at*;have CW:=af (aN.ring.VM wd yw Ei.1 Ei.2);refine ax 0 66 ?_;refine ax 1 67 ?_;refine ax 2 68 ?_;refine ax 3 69 ?_;refine ax 4 70 ?_;refine ax 5 71 ?_;refine ax 6 72 ?_;refine ax 7 73 ?_;refine ax 8 74 ?_;refine ax 9 75 ?_;refine ax 10 76 ?_;refine ax 11 77 ?_;refine aO 12 ?_;intro K hK;go_simp;refine CW.mono ?_;rintro e8 w8 ⟨u8,rfl,o5,fp⟩;have uD:=af (dQ.fL aN fp);have YK:=af (jZ.ext fp);exact k75):=h
def m76(h:ar:=by
 by_cases h0:a7 z.natAbs= []
 ·rw[ve.1 h0,nDigits_small Od];decide
 ·have h1:=aak (dE z.natAbs) h0;rw[dG] at h1;have h2:=(Dp ((dE z.natAbs).1.getElem (k:=(a7 z.natAbs).length - 1) (by have:=Ik.2 h0;omega))).1;rw[<-List.getLast_eq_getElem h0] at h2;omega):=h
def m77(h:ar:=by
 obtain⟨g',rfl,h1,h2⟩:=h;have h3:=h1.lt;refine⟨⟨g',rfl,h1.alloc _,h2⟩,fun b hb he=> ?_,fun b hb he=> ?_⟩
 ·rw[hv] at he;have hb:some g'=some b:=hb;injection hb with hb;injection he with he;omega
 ·rw[hv] at hb;have he:some g'=some b:=he;injection hb with hb;injection he with he;omega):=h
def m78(h:ar:=by
 have U6:q≠ob:=fun e=>by have h1:=HQ.ae;have h2:=HB.ae;subst e;unfold aq at h1 h2;rw[h1] at h2;injection h2 with h;injection h with _ h;exact absurd h Od
 have b0:=HB.aF 0;have f0:=HB.frozen 0;have Ai:=HB.lt;obtain⟨W4,D_,B4,K4,N4⟩:=fM (i:=0) HB.ae (aG q 0 x.ai x.ai);have mJ:=af (kt.past N4 Om);have P2:ah (Only g W W4):=ro.fresh N4 Pn;have HQ4:=af (HQ.only N4 U6);exact k78):=h
def V5(h:ar:=by go_enter func223,ntmps223;go_wp2_with fail;refine CS.mono ?_;rintro e w1 ⟨rfl,rfl⟩;go_wp2;go_ret;exact⟨rfl,rfl⟩):=h
def V4(h:ar:=by refine aV (acg y.2 (fun fx a ha=>an8 ok (SH hB) fx (hy.ao a ha)) _) ?_;exact aV (fK Od hy.al) Od):=h
def V3(h:ar:=by
 go_wp2_with fail
 go_roundw;exact⟨j+1,m,o3,by omega,by go_num,by first|rfl|trivial,HB,HI,bk,BX,HE⟩;simp [RowKit.intOf];omega):=h
def m83(h:ar:=by
 go_wp2_with fail
 refine EG.mono ?_;rintro e w3 ⟨rfl,hx⟩;have cE:=af (sX.trans hx);have sX:=cE;go_wp2_with fail
 refine bodyPost_ret (v:= .bool true) ax_ rfl ?_;exact⟨true,rfl,⟨fun _=>HP.ae,fun _=>rfl⟩,sX⟩):=h
def m84(h:ar:=by generalize wr.drew=wd at*;have CB2:=af (CB wd bk);refine ax 0 63 ?_;refine ax 1 64 ?_;refine ax 2 65 ?_;refine ax 3 66 ?_;refine ax 4 67 ?_;refine ax 5 68 ?_;refine ax 6 69 ?_;refine ax 7 70 ?_;refine ax 8 71 ?_;refine aO 9 ?_;intro K hK;go_simp;refine CB2.mono ?_;rintro e5 w5 ⟨u5,PS,rfl,DN,iK,ha5,o9⟩;have d8:=af iK;have Qz:ah (∀a,bH D.p v a=true->PS a=cur a):=fun a ha=>(ha5 a ha).trans (HA a ha);exact k84):=h
def m85(h:ar:=by
 go_wp2_with fail
 refine(PA W).mono ?_;rintro e w1 ⟨rfl,hx1⟩;obtain⟨t0,t1⟩:=(BX.ext hx1).two;go_wp2_with fail;refine(BA w1).mono ?_;rintro e w2 ⟨rfl,hx2⟩;go_wp2_with fail;refine(SA w2).mono ?_;rintro e w3 ⟨rfl,hx3⟩;go_wp2;go_ret;exact⟨rfl,HX.trans (hx1.trans (hx2.trans hx3))⟩):=h
def m86(h:ar:=by rintro e w3 ⟨v3,rfl,hv3,hx3⟩;go_wp2_with fail;refine(abc _ _ w3 hv3).mono ?_;rintro e w4 ⟨v4,rfl,hv4,iL⟩;obtain⟨r0,R0,r1,r2,s0,S0,s1,s2,rfl,jX,nG⟩:=hv4.parts;have kB:=af (EK.ext (hx3.trans iL));obtain⟨k0,k1,k2,k3⟩:=kB.four;obtain⟨f0,f1,f2,f3⟩:=kB.fX;go_wp2;refine zr rfl rfl rfl kB.ae (.mk' jX.ae nG.ae) (bk.trans (hx3.trans iL)) Om (fun v W' h1 h2=>⟨v,rfl,?_,h2⟩);exact k86):=h
def m87(h:ar:=by refine(aaN Aa Ab ca cb _ _ w Om Om iZ (dE _) (dE _) (by rw[dG,dG];exact hle) h1 h2).mono ?_;rintro e w' ⟨A,r,c,hc,_,hr,rfl,hd,hv,hs,hx⟩;exact⟨_,rfl,⟨A,r,c,rfl,hc,hd,hs,by omega,by rw[hv,dG,dG]⟩,hx⟩):=h
def V2(h:ar:=by
 go_upto_region 1 with fail
 refine aR fun W HX BX=> ?_;obtain⟨s0,s1⟩:=BX.two;go_wp2;go_ret;exact⟨rfl,HX⟩):=h
def m89(h:ar:=by have vD:=ok.self hv;have Wv:=ok.wk.Wi hv ht;have qU:cH D.fx v t=true:=((Nf ok.wk.tb vD (ok.wk.ne v hv)).1 ht).1;obtain⟨W1,hW1,cD,i5⟩:=(h.drew ok).Ox ok hv t;obtain⟨W2,hW2,bk,ey⟩:=cD.Dn ok hv true;have lx:=(h.st.drew.nc.cell (M0 (cur:=cur) hv));have hfn:=h.st.drew.nc.frozen v;have hcs:=(cD.st.sc.cell (qC (on:=bH D.p v) hv));have qX:=cD.st.sc.frozen v;rw[adY] at bk;exact k89):=h
def m90(h:ar:=by
 have h1:=h o hi (fun a' w'=>(T i=false->S w')/\bW P md ops Q S T fuel (listed.setIfInBounds i true) a' w') (fun _ _ h1 h2=>⟨h1,h2⟩);unfold wpOp;simp only[hi];split
 ·rename_i hw;rw[if_pos hw] at h1;exact .inl h1
 ·rename_i hw;rw[if_neg hw] at h1;exact h1):=h
def m91(h:ar:=by
 have HE:=af (cD.trans jg);obtain⟨g0,o0,Bk,dk,rfl,hg0,Yf,AC⟩:=iO.get (iO.ext HL HE) df;have hkr:k<x.ay.length:=by rw[<-HDl.ae];exact df
 have G9:=af (HD k _ _ (aX df) (aX hkr));have HRr:ah (x.ay[k]? =some x.ay[k]):=aX hkr;have BXr:=af (qw.ext jg);generalize x.ay[k]=r at*;generalize D[k]=t at*;exact k91):=h
def m92(h:ar:=by
 have lm:k+1<a.length:=by
  rcases cA (k+1) a with h|h
  ·exact h
  ·have e:k+1=a.length:=Om;have:=ant CA CB HL (r:=r++ [T]) (c:=1) (by simp [HR.ae,e]) (HD.snoc GP) (by rw[<-e];exact ko);omega
 have ey:=af (i5.stored k (.int .i64 (T:Int))).1;rw[List.set_set,Rn HR.ae Om] at ey;have hr1:(r++ [T]).length=k+1:=by simp [HR.ae]
 exact k92):=h
def m93(h:ar:=by obtain⟨cb,kb,hb,A,c,k1,_,_,_,hC,_,_,_⟩:=hp;obtain⟨B,d,hc,HB,hn⟩:=NL hC hl;have c1:=h.sx.cell k1;have c2:=hc w Ks;clear h hC hl hc;generalize x.ai.length=N at*;have hwr:IntKind.i64.wrap (((N+1:Nat):Int) - 1)=(N:Int):=ax5;have awf:IntKind.i64.wrap ((N:Int)+1 - 1)=(N:Int):=ax5;have WN:(N:Int)<(N:Int)+1:=Om;exact k93):=h
def V1(h:ar:=by
 go_wp2_with fail
 exact bodyPost_ret (v:= .bool true) (by simp [results,results66,go_sem]) rfl ⟨rfl,sX⟩):=h
def m95(h:ar:=by
 go_upto_region 8 with fail
 have bS:ah (Ext W (W.drewN nq)):=(aB W).drewN nq;generalize W.drewN nq=W2 at*;have ey:=af (i5.ext k6 bS);have mO:=af (BX.ext bS);have py:=af (eB Ha bS);have bk:=af (cD.trans bS);have nG:=af (xm HR bS);have iA:=af (FT (fun c x hc=>k6 _ _ _ _ (fun _ _=>Iz bS) hc) HC);exact k95):=h
def m96(h:ar:=by
 have jf:decide (p.den=1)=true:=decide_eq_true dZ;have HP1:=af dZ;clear dZ;go_wp2_with fail
 refine(Sj _ q w1 (HVB.ext cD) Yy.1 Yy.2).mono ?_;rintro e w2 ⟨rfl,hx2⟩;have EL:=af (Bt.ext hx2);have Bo:=af (Bp.ext hx2);have EK:=af (yR.ext hx2);have bk:=af (cD.trans hx2);obtain⟨a0,a1,a2,a3⟩:=EL.four;obtain⟨b0,b1,b2,b3⟩:=Bo.four;exact k96):=h
def m97(h:ar:=by
 obtain rfl:k=kl.length:=Om;have d1:decide ((kl.length:Int)<(kl.length:Int))=false:=aW;have Ko:=lB kl;rw[Yd.ae] at jJ Ko;have OO:ah (m_ v (D.key v) cur=m_ v kl cur):=by rw[ah,Vz.ae]
 rw[<-Vz.ae] at Et;generalize m_ v kl cur=nm at*;have HBF:=af (IsBuilderF.of jJ);have bk:=af cD.drew;have en:=af (HST.fL aN bk);exact k97):=h
def VZ(h:ar:=by
 go_wp2_with fail
 go_roundw;exact⟨i+1,by omega,by go_num,by first|rfl|trivial⟩;simp [RowKit.intOf];omega):=h
def m99(h:ar:=by go_enter func136,ntmps136;go_wp2_with fail;refine(V w).mono ?_;rintro e w1 ⟨rfl,hx1⟩;go_wp2_with fail;refine(HC w1).mono ?_;rintro e w2 ⟨rfl,hx2⟩;go_wp2;go_ret3;exact⟨rfl,hx1.trans hx2⟩):=h
def as7(h:ar:=by obtain⟨a,b,c,d,rfl,h1,h2⟩:=h;obtain⟨b1,A1,n1,c1,e1,H1⟩:=h1.parts;obtain⟨b2,A2,n2,c2,e2,H2⟩:=h2.parts;simp at e1 e2;obtain⟨rfl,rfl⟩:=e1;obtain⟨rfl,rfl⟩:=e2;exact⟨b1,A1,n1,c1,b2,A2,n2,c2,rfl,H1,H2⟩):=h
def U1(h:ar:=by obtain⟨ys,h1,h2⟩:=h.of;exact⟨ys,xi h1 hg (IP hown h1 Od),h2⟩):=h
def agA(h:ar:=by have qY:=pC.frozenAt i;have hfj:=pC.frozenAt j;have HRS:=af (kU.step (by rw[lB.ae];exact yD) hlt M[j] M[i] (aX qW) (aX D4));have pD:=af (((pC.stored i (.int .u8 (M[j].toNat:Int))).1.stored j (.int .u8 (M[i].toNat:Int))).1);rw[Z',Z'] at pD;generalize M[i]=x at*;generalize M[j]=y at*;clear hML D4 qW;go_wp2;exact agR):=h
def agz(h:ar:=by have OM:ah (kN fx on cur v ia (bZ ra) (lf.take (j+1))=lo):=ayL;go_wp2_with fail;go_roundw;exact⟨j+1,by omega,by go_num,by rw[OM.ae];exact lA,YV⟩;simp [RowKit.intOf];omega):=h
def agy(h:ar:=by
 go_wp2_with fail
 refine EG.mono ?_;rintro e w3 ⟨rfl,hx⟩;have cE:=af (sX.trans hx);go_wp2_with fail
 exact bodyPost_ret (v:= .bool true) (by simp [results,results66,go_sem]) rfl ⟨rfl,cE⟩):=h
def agx(h:ar:=by exact bodyPost_ret (results_cell_row rfl _ _ (w.heap.size+1) sf #[aG q 0 x.ai x.ai] (0,0) _ rfl B5.ae underlying32 rfl Ok) rfl ⟨q,pp,dd,rfl,HQ5,hdd,by omega,mI,mG⟩):=h
def agw(h:ar:=by
 go_upto_region 1 with fail
 refine aR fun w cI BZ=> ?_;have h:=h0.fL ok cI;have vN:wy.heap.size<w.heap.size:=BZ.lt;have vP:D.nb<wy.heap.size:=h0.st.nc.lt;have z7:D.sb<wy.heap.size:=h0.st.sc.lt;have hkb:D.kb<wy.heap.size:=h0.mem.lt;have Gt:D.xb<wy.heap.size:=h0.st.sx.lt;have hw0:D.w0.heap.size<=wy.heap.size:=h0.st.ex.size;clear h0;exact agQ):=h
def agv(h:ar:=by
 go_wp2_with fail
 refine CSn.mono ?_;rintro e wz ⟨rfl,hxz⟩;go_wp2_with fail;exact bodyPost_ret (v:= .bool true) (by simp [results,results4,go_sem]) rfl ⟨rfl,HEJ.trans hxz⟩):=h
def agu(h:ar:=by
 go_upto_region 1 with fail
 refine aR fun W HX BX=> ?_;obtain⟨s0,s1⟩:=BX.two;go_wp2_with fail;refine(WA W).mono ?_;rintro e w1 ⟨rfl,hx1⟩;go_wp2;go_ret;exact⟨rfl,HX.trans hx1⟩):=h
def agt(h:ar:=by have tD:=af ko;clear hA ko x7 Eb;go_wp2;go_roundw;exact⟨k+1,0,r++ [T%B9],by omega,by go_num,by omega,by omega,hr1,HD.snoc GP,tD,ey,cD⟩;simp [RowKit.intOf];omega):=h
def ags(h:ar:=by generalize wr.drew=wd at*;have EG:=af (CV wd bk);refine ax 0 18 ?_;refine ax 1 19 ?_;refine ax 2 20 ?_;refine ax 3 21 ?_;refine ax 4 22 ?_;refine ax 5 23 ?_;refine ax 6 24 ?_;refine ax 7 25 ?_;refine aO 8 ?_;intro K hK;go_simp;refine EG.mono ?_;rintro e5 w5 ⟨u5,PS,rfl,DN,iK,o9⟩;have d8:=af iK;have mL:=af (iA.trans o9);exact agP):=h
def agq(h:ar:=by have h1:=G5 cu w' (by rw[uO.ae];exact h) (fun a ha=>by rw[uO.ae] at ha;cases ha);rw[AU.ae cu,uO.ae] at h1;refine h1.mono ?_;rintro e w'' ⟨u,cur',h1,h2,h3,_,h5⟩;exact⟨u,cur',h1,h2,h3,h5⟩):=h
def agp(h:ar:=by have aJ:ah (I W.drew):=jh _ (gS (aB W)).drew (HMW.ext (aB W).drew);clear GQ BR;refine cG (S:=I) (T:=fun _=>false) Ok ?_;generalize W.drew=wd at*;refine ax 0 20 ?_;refine ax 1 21 ?_;refine ax 2 22 ?_;refine ax 4 24 ?_;refine ax 5 25 ?_;refine ax 6 26 ?_;refine ax 7 27 ?_;refine ax 8 28 ?_;refine ax 10 30 ?_;exact agO):=h
def ago(h:ar:=by go_wp2;go_quiet (fail);go_wp2;go_roundw;exact⟨q - 1,r+v1,congrArg _ Om,congrArg _ Om,HG',by omega,by first|exact UG _ _|exact JF _ _ _⟩;simp [intOf];omega):=h
def agn(h:ar:=by
 go_upto_region 1 with fail
 refine aR fun W HX BT=> ?_;have dC:=BT.lt;have hl0:=HN.lt;have bK:ah (∀w':World,aA w' bn 0 AK->aA w' bn 0 AK):=fun _ h=>h;have cF:ah (∀w':World,Ext W w'->aA w' bn 0 AK):=fun w' h=>((HN.ext HX).ext h).aF 0;have aJ:=af (cF _ (aB W).drew);exact agN):=h
def U0(h:ar:=by rintro e w' ⟨r,c,hc,rfl,hr,hv,hs,hx⟩;exact⟨_,rfl,.mk' hr (by rw[hv,dG,dG]) hc hs,hx⟩):=h
def agm(h:ar:=by have hM:=kU.done (by rw[lB.ae];exact yD) hlt;rw[List.reverse_reverse] at hM;subst hM;have hcv:=alp pC;go_wp2;go_ret;exact⟨rfl,pQ HX (ox.mono (mX _))⟩):=h
def as6(h:ar:=by
 have axh:=gC _ (a8 Az);have G2:ah (ej (kd x cs[j]) yv[j]):=G1.2 j _ _ (aX Az) (aX Ay);generalize cs[j]=a at*;generalize yv[j]=t at*;obtain⟨an,rfl⟩:∃an:Nat,a=an:=⟨a.toNat,by omega⟩;have ahx:an<AN:=Om;have lK:an<x.ai.length:=by rw[uO.ae];exact ahx
 exact atg):=h
def agl(h:ar:=by
 rw[Re];constructor
 ·rintro⟨v,_,hv⟩;exact(eE.1 hv).1
 ·intro hh;exact⟨_,(Wq _).2 (w.lt h hh _ (w.mem h hh)),eE.2 ⟨hh,beq_self_eq_true _⟩⟩):=h
def as5(h:ar:=by
 refine bY Ok ?_;have jG:=af (K0.trans aJ);go_wp2_with fail
 go_roundw;exact⟨j+1,by omega,by go_num,jG⟩;simp [RowKit.intOf];omega):=h
def agk(h:ar:=by have Bn:=af (BO.bX o9 axn);have wN:=af (oB.bX o9 axn);have bB:ah (aq w5 D.xb D.tX D.cs/\aq w5 ob cY [.bool o0,.slice O0 o1 o2,.bool p0,.slice P0 p1 p2]):=⟨iK.st.sx,Bn⟩;have Pv:=bk.Og o9;exact agM):=h
def agj(h:ar:=by
 go_wp2_with fail
 refine vG (P:=fun W=>Calls _ _ _ W _) fun W HX BA BB BR=> ?_;refine(Sj _ p W (HVA.ext HX) Yz.1 Yz.2).mono ?_;rintro e w1 ⟨rfl,hx1⟩;have Bt:=af (BA.ext hx1);have Bp:=af (BB.ext hx1);have yR:=af (BR.ext hx1);have cD:=af (HX.trans hx1);obtain⟨b0,b1,b2,b3⟩:=Bp.four;exact agL):=h
def agi(h:ar:=by have gP:=af (iN.only fu Om);have Hk:=af (lC.wd fu lT);have hs3:bs<=w5.heap.size:=aV Wx fu.size;have fJ:=af (ey.only cJ fu Om Oe);have aJ:=gP;refine hK.ae _ _ (fun _=>aJ.ae) ?_;refine ax 15 41 ?_;refine ax 16 42 ?_;refine bY Ok ?_;exact agK):=h
def as4(h:ar:=by obtain⟨vQ,ag4,ahp⟩:=bl hl;subst vQ;have HL:=af hl;have HD:=af hD.2;have r6:=ok.r6;obtain⟨A,c,B,d,Dd,e,rfl,ha,gL,hf⟩:=h;obtain⟨-,jf,lw⟩:=bl gL;have hDl:=hD.1;have HDl:=af hDl;rw[<-hDl] at CH CT r6 jf⊢;clear hl ha gL hf ok hD hDl;generalize x.ai.length=AN at*;generalize x.a_.length=FN at*;exact atf):=h
def agh(h:ar:=by rw[<-rI,Sr];refine not_congr ⟨fun⟨r,hr,ha⟩=>hlt r (hp.mem_iff.1 hr) a ha,fun ha=> ?_⟩;obtain⟨h,hh,hm⟩:=JU a ha;exact⟨h,hp.mem_iff.2 hh,hm⟩):=h
def agf(h:ar:=by obtain⟨y,hy⟩:=Ia.1 (hg.row t ht h (hp.mem_iff.2 hh));obtain⟨h1,h2⟩:=Ff hy;exact hr h hh y h1 _ (by rw[h2];exact b_.2 ⟨v,hm,rfl⟩)):=h
def UZ(h:ar:=by go_wp2;go_round;exact⟨k+1,by omega,by go_num⟩;simp [RowKit.intOf];omega):=h
def age(h:ar:=by have HV:ah (eM (val a) (val b)=0):=(by obtain rfl:m= -1:=Om;have:=HD.ae;simp at this;rw[this];exact aqm rfl);go_wp2;rw[HV.ae];go_ret;exact⟨rfl,_,rfl⟩):=h
def agd(h:ar:=by have vH:=af (xm i4 cI);have ahR:ah (Ch (dw WZ) xr (ints (l))):=HRc.ae;clear hK;have dC:((l).length+1)*8<=140737488355328:=Om;refine jM 10 Ok ?_;intro oo nx K hK;simp only[eR,dX,dA,dl] at nx;subst nx;refine nV rfl ?_;exact agJ):=h
def agc(h:ar:=by unfold Oper.wp execOp;simp only[ho,resolve,invoke,builtin,Sem.run_bind,Sem.run_pure,Result.andThen_ok,List.map_toArray,jc,List.map_nil,hs,hx,hr];exact h v' w' h2 h3 h5):=h
def agb(h:ar:=by generalize w5.drew=wd at*;have CV:=af (G5 cu wd Gg Hq);refine ax 0 102 ?_;refine ax 1 103 ?_;refine ax 2 104 ?_;refine ax 3 105 ?_;refine ax 4 106 ?_;refine ax 5 107 ?_;refine ax 6 108 ?_;refine ax 7 109 ?_;refine aO 8 ?_;intro K hK;go_simp;refine CV.mono ?_;rintro e8 w8 ⟨u8,PR,rfl,o5,fp,PM,vY⟩;exact agI):=h
def UY(h:ar:=by obtain⟨ys,h1,h2⟩:=h.ol;exact⟨ys,xi h1 hg (IP hown h1 Od),h2⟩):=h
def UX(h:ar:=by obtain⟨ys,h1,h2⟩:=h.oa;exact⟨ys,xi h1 hg (IP hown h1 Od),h2⟩):=h
def aga(h:ar:=by
 rcases j4 n with h|h
 ·subst h;rfl
 ·have:(a7 n).length≠0:=fun h0=>by have:=ve.1 (lU h0);omega
  simp;omega):=h
def UW(h:ar:=by
 rcases cA q a.heap.size with h'|h'
 ·exact h'
 ·simp [wQ h'] at h):=h
def af_(h:ar:=by
 rw[dD (by rw[jW.ae];exact aL _)] at HU;have hall:∀a,a<N->bs[a]? =some true:=fun a ha=>by obtain⟨r,hr,hm⟩:=aN.used a (by rw[HN.ae];exact ha);have h:=HU.2 (a:Int) (mS.2 ⟨r,hr,hm⟩);rw[kX] at h;exact h
 rw[ao' HU.1 hall] at BU;exact agH):=h
def af'(h:ar:=by go_quiet (fail);go_wp2;go_roundw;exact⟨j+1,by omega,by go_num,⟨_,rfl⟩,by rw[ah,HA.ae,HAS.ae];simp⟩;simp [RowKit.intOf];omega):=h
def UV(h:ar:=by
 rcases cA i x.ay with h|h
 ·exact h
 ·rw[eT h] at hr;cases hr):=h
def af9(h:ar:=by exact aV (mP _ _) (by rw[i7];exact aL _)):=h
def af8(h:ar:=by refine ax 0 14 ?_;refine ax 1 15 ?_;refine ax 2 16 ?_;refine ax 3 17 ?_;refine ax 4 18 ?_;refine ax 5 19 ?_;refine ax 6 20 ?_;refine ax 7 21 ?_;refine ax 8 22 ?_;refine ax 9 23 ?_;refine ax 10 24 ?_;refine ax 11 25 ?_;refine aO 12 ?_;intro K hK;go_simp;rw[wn.ae];refine hK.ae _ _ (fun _=>bB.ae) ?_;exact agG):=h
def af7(h:ar:=by
 rcases h with⟨hB,v,hb,ho,hn⟩|⟨hB,v,hb,ho,hn⟩
 ·exact .inl ⟨hB,v,hb'.trans hb,own ho,hn⟩
 ·exact .inr ⟨hB,v,hb'.trans hb,own ho,hn⟩):=h
def Dq(h:ar:=by obtain⟨ba,Aa,na,ca,rfl,HA⟩:=ha.parts;obtain⟨bb,Ab,nb,cb,rfl,HB⟩:=hb.parts;have FX:=af fx;have FY:=af fy;exact Dr):=h
def af6(h:ar:=by
 obtain⟨ba,Aa,na,ca,rfl,HA⟩:=ha.parts;obtain⟨bb,Ab,nb,cb,rfl,HB⟩:=hb.parts;have PK:(ba==bb)=false:=by rw[HA.inv.1,HB.inv.1];simpa using Wm
 have HXY:=af Wm;have FX:=af fx;have FY:=af fy;go_enter func128,ntmps128;exact agF):=h
def af5(h:ar:=by go_wp2;refine zr rfl rfl rfl kB.ae (.mk' jX.ae nG.ae) (HX.trans sL) Om (fun v W' h1 h2=>⟨v,rfl,?_,h2⟩);rw[<-R7];exact h1):=h
def af4(h:ar:=by go_wp2;refine zr rfl rfl rfl kB.ae (.mk' jX.ae nG.ae) (HX.trans sK) Om (fun v W' h1 h2=>⟨v,rfl,?_,h2⟩);rw[<-Si];exact h1):=h
def af3(h:ar:=by go_enter func171,ntmps171;go_wp2;go_ret;exact⟨qG HS.symm,(aB w).alloc _⟩):=h
def af2(h:ar:=by rw[ah,kG];rw[show D.R.prod ([]:List Nat) (fun c=>D.vT c (put cur v t))=D.R.one from rfl,SR.zV];have h:=HU.ae;rwa[fB] at h):=h
def af1(h:ar:=by simp only[eR,dX,dA,dl] at ho;subst ho;refine⟨rfl,rfl,fun w'=> ?_⟩;go_simp):=h
def af0(h:ar:=by go_wp2;go_roundw;exact⟨i+1,by omega,by go_num,by rw[(F9 lB Ey),uJ.ae],trivial⟩;simp [RowKit.intOf];omega):=h
def afZ(h:ar:=by clear hl;go_enter func154,ntmps154;go_wp2;go_ret;exact⟨qG HV.symm,0,rfl⟩):=h
def afY(h:ar:=by have bk:=af (HX.drew aN);have iA:=af HC.drew;have oB:=af BZ.drew;obtain⟨o0,O0,o1,o2,p0,P0,p1,p2,BO,VO⟩:=HU.drew.parts;have aJ:ah (aq wr.drew D.xb D.tX D.cs/\aq wr.drew ob cY [.bool o0,.slice O0 o1 o2,.bool p0,.slice P0 p1 p2]):=⟨bk.st.sx,BO⟩;exact agE):=h
def afX(h:ar:=by
 have gp:j<ls.length:=by rw[<-h.len];exact(uU.1 hu).1
 exact((h.own j u _ hu (aX gp)).blk hb).2.1):=h
def afW(h:ar:=by obtain⟨ga',oa',ee,h1,h2,h3⟩:=oM (AL.past Qy wD ho) lK;injection ee with ee;injection ee with e1 e2;subst e1 e2;exact⟨h2,h3⟩):=h
def as3(h:ar:=by
 go_wp2_with fail
 go_quiet (fail);go_wp2;go_roundw;exact⟨1,by omega,by go_num,jG.drewN _⟩;simp [RowKit.intOf];omega):=h
def afV(h:ar:=by
 go_wp2_with fail
 go_roundw;exact⟨j+1,_,a_,_,by omega,by go_num,uN.skip,dS⟩;simp [RowKit.intOf];omega):=h
def afU(h:ar:=by rw[beq_eq_false_iff_ne];intro h;have h0:q.num=0:=Cz (h.trans Cy.symm);have:=q.reduced;rw[h0] at this;exact h1 (by simpa using this)):=h
def afT(h:ar:=by
 show o.take k++(if dU o[k].1 x.1=true then o[k]::fY x (o.drop (k+1)) else if (o[k].1==x.1)=true then _ else _)=_
 rw[hl,he];rfl):=h
def afS(h:ar:=by have k0:=B8.aF 0;have k1:=B8.aF 1;have k2:=B8.aF 2;have f0:=wO.frozen 0;have f1:=wO.frozen 1;have f2:=wO.frozen 2;have r0:=wO.aF 0;have r1:=wO.aF 1;have r2:=wO.aF 2;have Kq:=wO.lt;exact agD):=h
def as2(h:ar:=by have d1:decide ((k:Int)<(D.length:Int))=false:=aW;go_wp2;go_ret;exact⟨rfl,cD.trans jg⟩):=h
def afR(h:ar:=by have a1:=ok.cm;have a2:=ok.cw;have a3:=h.st.cN;have a4:=h.st.cS;exact fun w' h=>⟨h.cell a1,h.cell a2,h.cell a3,h.cell a4⟩):=h
def afQ(h:ar:=by
 generalize t++ [0]=t0 at*;go_wp2_with fail;refine CW.mono ?_;rintro e6 w6 ⟨rfl,hb6,jS⟩;have pG:ah (IsBuilder tB t8 w.heap.size w.heap.size (byteCells (UInt8.ofNat v::kf ((kl.take (k+1)).map cur))) w6):=by rw[auM.ae];exact .inr hb6
 have dR:ah (Ext w w6):=pQ cD jS;exact agC):=h
def afP(h:ar:=by obtain⟨_,_,hA,_,hc⟩:=SV.at_ (kJ hk);injection hA with hA;injection hA with h1 h2;subst h1 h2;rw[hc,gT hk]):=h
def afO(h:ar:=by go_wp2;go_roundw;exact⟨i+1,by omega,by go_num,by rw[uJ.ae],trivial⟩;simp [RowKit.intOf];omega):=h
def afN(h:ar:=by
 go_wp2_with fail
 go_roundw;exact⟨i+1,by omega,by go_num,arL HQ _⟩;simp [RowKit.intOf];omega):=h
def afM(h:ar:=by have h1:=HU.1;exact⟨_,BU.cell (i:=q) (by rw[pY,dK,aX Om];rfl)⟩):=h
def afL(h:ar:=by rw[tJ,aX hi,kE];simp [eG,aX hk]):=h
end Go.Proofs.YtehkcnbodcdijaaGreatDoor
