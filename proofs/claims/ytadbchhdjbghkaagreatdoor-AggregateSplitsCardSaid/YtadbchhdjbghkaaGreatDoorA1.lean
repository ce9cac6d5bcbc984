/- Texts of the proof, part 1. -/
import Derived.Test.YtadbchhdjbghkaaGreatDoorA0
import Derived.BigQuiet
import Derived.BigRegion
import Derived.Carry
import Derived.Deep.DeepCutAuto
import Derived.Deep.DeepHandedRow
import Derived.Deep.LoopGhost
import Derived.Deep.QuietTactic
import Derived.Deep.RegionHeld3
import Derived.Deep.RegionWith
import Derived.IntWalk
import Derived.LaidSub
import Derived.Laws.AppendOwnNone
import Derived.Laws.Bits64b
import Derived.Laws.CopyOwn
import Derived.Laws.Cover1
import Derived.Laws.EntriesVeiled
import Derived.Lib.AppendIntMem
import Derived.Lib.AppendStr
import Derived.Lib.AtoiErrMem
import Derived.Lib.ConvBytes
import Derived.Lib.CutLaws
import Derived.Lib.Hide
import Derived.Lib.IndexBytes
import Derived.Lib.ItoaLen
import Derived.Lib.LaidTab
import Derived.Lib.OthersKept
import Derived.Lib.ParseIntB
import Derived.Lib.Repeat
import Derived.Lib.SlBytesConst
import Derived.MakeChecks
import Derived.Maps.AppendAt
import Derived.Maps.OwnSet
import Derived.Maps.RangeWalk
import Derived.OpenShut
import Derived.OrdersHeld
import Derived.ProofKit
import Derived.RegionTactic
import Derived.WalkKit
import Derived.WalkSpells
import Derived.Test.YtadbchhdjbghkaaGreatDoorCards
import Derived.Test.YtadbchhdjbghkaaGreatDoorTie
namespace Go.Proofs.YtadbchhdjbghkaaGreatDoor
set_option maxHeartbeats 8000000
set_option linter.all false
set_option maxRecDepth 100000
variable{aq:Prop}
open Go.RowKit Go.Lib Go.Maps Go.ChangeShapes Go.WideShapes Go.ChangeAt Go.Proofs.Tryz
variable{a b c d e f g h:Nat}{i j k l:List Nat}{m n o:World}{p q r s:Value}{t u v:List Value}{w x:TypeId}{y z:Nat→Option Nat}{A:Nat→List Nat}{B C:Int}{E F:Option Addr}{H I:Rat}{J:Nat→Nat}{K:Nat→Bool}{L:List Int}{N:Array Bool}{O:Option Nat}{Q:Act}{R S:Bool}{T:List UInt8}
def aJ:=@List.mem_cons
def aK:=@Nat.le_refl
def aV:=@Nat.zero_le
def aX:=@List.getElem?_eq_getElem
def a7:=@Nat.le_trans
def a_:=@List.getElem_mem
def bC:=@List.length_append
def bG:=@List.mem_singleton
def bL:=@List.not_mem_nil
def bV:=@List.mem_append
def bW:=@List.length_map
def cA:=@Nat.lt_or_ge
def cF:=@Nat.lt_of_lt_of_le
def cJ:=@List.length_take
def cP:=@List.length_cons
def cY:=@Option.some.injEq
def cZ:=@Bool.and_eq_true
def dy:=@List.getElem?_cons_zero
def dz:=@List.take_of_length_le
def dB:=@List.mem_range
def dL:=@List.getElem?_map
def dP:=@List.set_cons_zero
def dS:=@List.getElem?_cons_succ
def dU:=@List.mem_map
def d8:=@List.setIfInBounds_toArray
def d9:=@List.set_cons_succ
def ed:=@Nat.mul_comm
def eF:=@Nat.mod_lt
def eR:=@List.getElem?_toArray
def eT:=@Nat.mul_le_mul_right
def eU:=@Nat.pow_succ
def fg:=@List.take_succ_eq_append_getElem
def fh:=@List.getD_eq_getElem?_getD
def fj:=@List.take_length
def fp:=@List.mem_filter
def fF:=@List.getElem?_eq_none
def fN:=@Nat.pow_le_pow_right
def fO:=@Nat.mul_assoc
def fP:=@Ne.symm
def fY:=@Int.natAbs_natCast
def fZ:=@Nat.mul_add
def ie:=@List.append_assoc
def ip:=@Nat.eq_zero_or_pos
def iq:=@Nat.add_zero
def iE:=@List.length_singleton
def iF:=@Nat.mul_le_mul_left
def iG:=@List.length_range
def iQ:=@List.getElem_of_mem
def iR:=@Nat.min_eq_left
def i6:=@List.nodup_cons
def i7:=@List.append_nil
def ja:=@Nat.zero_add
def jR:=@List.drop_eq_getElem_cons
def kg:=@Int.toNat_natCast
def kh:=@Go.IntKind.wrap_u64
def ki:=@Nat.add_mul
def kD:=@List.map_append
def kE:=@Bool.or_eq_true
def kF:=@List.take_zero
def kG:=@Nat.mul_one
def k6:=@Int.natCast_mul
def lG:=@List.getElem?_range
def lH:=@List.mem_cons_self
def lI:=@Bool.eq_iff_iff
def lJ:=@List.drop_zero
def lK:=@Nat.le_succ
def mh:=@List.eq_nil_of_length_eq_zero
def mm:=@List.length_filter_le
def mP:=@List.pairwise_cons
def mQ:=@Go.World.ownsRow_nil
def mS:=@Nat.add_comm
def nM:=@List.getElem?_append_left
def nN:=@List.contains_iff_mem
def nO:=@List.map_cons
def nQ:=@Nat.one_mul
def oW:=@List.mem_of_mem_take
def oX:=@List.mem_cons_of_mem
def oZ:=@List.map_congr_left
def o5:=@List.getElem?_set
def o7:=@List.mem_flatMap
def o8:=@List.length_drop
def o9:=@List.any_eq_true
def pd:=@Nat.le_of_lt
def po:=@Nat.pow_one
def pT:=@List.pairwise_iff_getElem
def pU:=@List.drop_of_length_le
def pW:=@Nat.pow_add
def qM:=@Nat.and_lt_two_pow
def qN:=@List.mem_replicate
def qO:=@List.filter_append
def qP:=@List.nodup_append
def qQ:=@List.nodup_range
def qR:=@List.filter_cons
def qT:=@Nat.succ_mul
def qV:=@Go.RowKit.Below.trans
def sI:=@UInt8.le_iff_toNat_le
def sJ:=@List.take_append_drop
def sK:=@List.mem_of_getElem?
def sL:=@List.ext_getElem?
def sM:=@Bool.not_eq_true'
def sN:=@Nat.mod_eq_of_lt
def sO:=@List.cons_append
def sP:=@List.all_eq_true
def sQ:=@Bool.not_eq_true
def sR:=@List.length_set
def t_:=@List.getElem?_eq_some_iff
def ua:=@Nat.div_add_mod
def ud:=@Go.RowKit.Below.grown
def vz:=@List.foldl_append
def vB:=@List.flatMap_cons
def vD:=@List.getElem_map
def vE:=@List.nil_append
def vF:=@Nat.mul_le_mul
def vI:=@Bool.or_false
def x4:=@List.getElem?_append_right
def x6:=@Array.getElem?_eq_none
def x7:=@List.Pairwise.sublist
def x8:=@List.filter_sublist
def x9:=@Nat.xor_lt_two_pow
def x_:=@List.map_replicate
def ya:=@List.take_add_one
def ye:=@Go.IntKind.wrap_i64
def yf:=@Nat.two_pow_pos
def yg:=@List.length_nil
def yh:=@List.find?_some
def yi:=@List.drop_drop
def yj:=@Int.natAbs_mul
def yq:=@Nat.add_assoc
def yr:=@Nat.pow_zero
def yt:=@Nat.mul_zero
def yu:=@Nat.and_comm
def yz:=@Int.le_refl
def yE:=@Go.RowKit.Below.refl
def z_:=@List.mem_of_find?_eq_some
def Ae:=@List.getElem?_replicate
def Ai:=@List.drop_eq_nil_of_le
def Aj:=@Int.sign_eq_one_of_pos
def Ay:=@Nat.lt_of_le_of_lt
def Az:=@List.find?_eq_none
def AC:=@Go.Lib.cell_of_heap
def AD:=@Int.natCast_ediv
def AE:=@Nat.div_le_self
def AH:=@Nat.gcd_comm
def AJ:=@Int.lt_or_le
def D6:=@List.length_pos_iff
def D7:=@List.flatMap_append
def D8:=@List.getElem?_drop
def D9:=@List.getElem_take
def D_:=@List.filter_congr
def Ec:=@Nat.zero_testBit
def Eg:=@Go.IntWalk.i64_in
def Eh:=@Int.mul_nonneg
def Ek:=@List.sum_cons
def El:=@List.map_take
def Em:=@Bool.not_true
def En:=@Nat.le_of_eq
def Eo:=@List.map_set
def Ep:=@List.map_map
def Et:=@Rat.mul_one
def G5:=@Int.sign_eq_neg_one_of_neg
def G6:=@Option.isSome_iff_exists
def G7:=@Nat.le_mul_of_pos_right
def G8:=@Go.Region.noSelect_spec
def G9:=@Nat.pow_lt_pow_right
def G_:=@List.replicate_succ'
def Ha:=@List.mem_of_mem_drop
def Hb:=@Nat.or_lt_two_pow
def Hd:=@Go.Region.free_spec
def He:=@Rat.intCast_mul
def Hf:=@Nat.mod_add_div
def Hg:=@List.range_succ
def Hh:=@List.foldl_cons
def Hk:=@Nat.testBit_or
def Hm:=@Bool.false_or
def Hn:=@List.map_nil
def Lb:=@List.take_append_of_le_length
def Lc:=@Array.size_setIfInBounds
def Ld:=@List.pairwise_singleton
def Le:=@List.getElem_cons_zero
def Lg:=@List.length_replicate
def Lh:=@List.countP_le_length
def Lj:=@List.filter_eq_self
def Ll:=@List.map_singleton
def Ln:=@Go.RowKit.Below.heap_setCell
def Lq:=@List.pairwise_map
def Lr:=@Option.bind_some
def Lt:=@Nat.le_add_right
def Lu:=@Nat.div_eq_of_lt
def Lv:=@Nat.not_lt_zero
def Lx:=@List.filter_nil
def Lz:=@List.cons.injEq
def LA:=@Int.natCast_add
def LB:=@List.take_take
def LC:=@List.nodup_nil
def LD:=@Int.natAbs_neg
def LH:=@Bool.true_and
def LK:=@Nat.zero_mul
def LM:=@Nat.sub_self
def LN:=@Nat.mul_succ
def LO:=@Go.Addr.add_lit
def LX:=@Rat.one_mul
def LY:=@Rat.le_refl
def LZ:=@Int.mul_pos
def PO:=@List.idxOf_lt_length_of_mem
def PP:=@Classical.byContradiction
def PQ:=@List.idxOf_lt_length_iff
def PR:=@List.countP_cons_of_pos
def PS:=@List.countP_cons_of_neg
def PT:=@Nat.div_lt_iff_lt_mul
def PU:=@List.set_append_right
def PV:=@Go.Lib.run_eql_slice_nil
def PW:=@Nat.eq_of_testBit_eq
def PX:=@Array.size_replicate
def PY:=@List.take_succ_cons
def PZ:=@UInt8.toNat_ofNat'
def P3:=@List.getElem_range
def P5:=@Int.sub_eq_add_neg
def P6:=@Go.World.drewN_drewN
def P7:=@Nat.lt_trichotomy
def P8:=@List.any_eq_false
def P9:=@Int.lt_trichotomy
def P_:=@List.drop_append
def Qa:=@Int.natCast_emod
def Qc:=@UInt8.toNat.inj
def Qd:=@Nat.le_add_left
def Qe:=@List.idxOf_cons
def Qh:=@List.any_cons
def Qj:=@Bool.or_assoc
def Qr:=@Rat.zero_mul
def Qs:=@Rat.add_zero
def Qt:=@Nat.sub_zero
def Qu:=@Nat.ne_of_gt
def Qv:=@Nat.lt_trans
def Qw:=@List.any_nil
def Qx:=@Int.add_comm
def QA:=@Bool.or_true
def QO:=@Nat.gcd_rec
def YA:=@Nat.mul_lt_mul_of_pos_right
def YB:=@Array.getElem?_eq_some_iff
def YC:=@List.getElem_append_right
def YD:=@Int.sign_eq_zero_iff_zero
def YE:=@Array.getElem?_eq_getElem
def YF:=@List.getElem_append_left
def YG:=@List.find?_range_eq_some
def YH:=@Int.mul_ediv_cancel_left
def YI:=@List.getLast_eq_getElem
def YJ:=@Nat.testBit_lt_two_pow
def YK:=@List.getElem_cons_succ
def YL:=@List.filter_eq_nil_iff
def YM:=@Bool.and_eq_false_iff
def YN:=@Array.getElem?_modify
def YO:=@BitVec.testBit_toNat
def YP:=@List.replicate_zero
def YQ:=@List.length_reverse
def YR:=@List.drop_replicate
def YS:=@Go.World.grownBy.refl
def YT:=@Nat.pos_of_ne_zero
def YU:=@Nat.gcd_zero_right
def YV:=@List.getElem_idxOf
def YW:=@List.getElem?_take
def YX:=@List.append_of_mem
def YZ:=@Rat.divInt_eq_div
def Y1:=@Nat.mul_left_comm
def Y2:=@List.getElem?_nil
def Y3:=@List.count_append
def Y4:=@Nat.le_of_not_lt
def Y5:=@List.flatMap_nil
def Y6:=@List.drop_length
def Y9:=@Go.Oper.upon_value
def Y':=@Nat.testBit_and
def Y_:=@List.sum_append
def Za:=@List.any_append
def ag7:=@List.set_eq_take_append_cons_drop
def ag8:=@Array.all_eq_true_iff_forall_mem
def ag9:=@List.dropLast_concat_getLast
def ag':=@Nat.testBit_two_pow_sub_one
def avL(h:aq:=by (simp only[aJ,bL,or_false];omega)):=h
def avM(h:aq:=by (rw[beq_eq_false_iff_ne];omega)):=h
def avN(h:aq:=by (unfold B9;omega)):=h
def avO(h:aq:=by (have:=j.ae;unfold B9 at this⊢;omega)):=h
def avP(h:aq:=by (rw[HT.ae];unfold B9;omega)):=h
def avQ(h:aq:=by (rw[ah,eQ];exact fun _ h=>h)):=h
def avR(h:aq:=by exact bP.drew):=h
def avS(h:aq:=by simp [a]):=h
def avT(h:aq:=by simpa using c):=h
def avU(h:aq:=by (rw[cJ];omega)):=h
def avV(h:aq:=by (show w.heap.size<w.heap.size+1;omega)):=h
def avW(h:aq:=by (unfold maxLen;omega)):=h
def avX(h:aq:=by (rw[kh];omega)):=h
def avY(h:aq:=by simpa using a):=h
def avZ(h:aq:=by (rw[bW];omega)):=h
def av0(h:aq:=by exact HX.trans b):=h
def av1(h:aq:=by (have:=j.ae;unfold B9 at this;omega)):=h
def av2(h:aq:=by (simp only[bG];omega)):=h
def av3(h:aq:=by exact HX.drew):=h
def av4(h:aq:=by decide+kernel):=h
def av5(h:aq:=by (rw[<-k6];omega)):=h
def av6(h:aq:=by (intro i a;simp only[aJ,bL,or_false] at a;omega)):=h
def av7(h:aq:=by simpa using h):=h
def av8(h:aq:=by simpa using e):=h
def av9(h:aq:=by simp [b]):=h
def av'(h:aq:=by (rintro rfl;exact absurd w Od)):=h
def av_(h:aq:=by (have:=s.ae;omega)):=h
def awa(h:aq:=by (have:=h.1.head;unfold B9 at this;exact this)):=h
def awb(h:aq:=by (rw[show(48:UInt8).toNat=48 from rfl];omega)):=h
def awc(h:aq:=by (have:=E.ae;have:=n.ae;omega)):=h
def awd(h:aq:=by (show w.heap.size+1<w.heap.size+1+1;omega)):=h
def awe(h:aq:=by (rw[ye];omega)):=h
def awf(h:aq:=by (rw[ah,HT.ae,qO,qR,hq];simp)):=h
def awg(h:aq:=by (unfold ints;rw[bW])):=h
def awh(h:aq:=by simp [c]):=h
def awi(h:aq:=by simp [results,uz,go_sem]):=h
def awj(h:aq:=by (rw[b.ae];unfold B9;omega)):=h
def awk(h:aq:=by (rw[a];omega)):=h
def awl(h:aq:=by (rw[B.ae];unfold B9;omega)):=h
def awm(h:aq:=by (rw[A.ae];unfold B9;omega)):=h
def awn(h:aq:=by (rw[h];rfl)):=h
def awo(h:aq:=by (intro x s;rw[qN] at s;rw[s.2];decide)):=h
def awp(h:aq:=by simpa using f):=h
def awq(h:aq:=by simpa using d):=h
def awr(h:aq:=by simpa using b):=h
def aws(h:aq:=by (show g+1≠g+1+1;omega)):=h
def awt(h:aq:=by simp [Fo.vars,h]):=h
def awu(h:aq:=by (rw[<-eU];congr 1;omega)):=h
def awv(h:aq:=by (rw[qU];omega)):=h
def aww(h:aq:=by simp [results,results189,go_sem]):=h
def awx(h:aq:=by simp [results,results132,go_sem]):=h
def awy(h:aq:=by (show g≠g+1+1;omega)):=h
def awz(h:aq:=by (have:=bQ.size;have:=BB.lt;omega)):=h
def awA(h:aq:=by simp [ints]):=h
def awB(h:aq:=by simp [results,results3,go_sem]):=h
def awC(h:aq:=by simp [Fo.vars]):=h
def awD(h:aq:=by (obtain⟨_,_,rfl,_⟩:=h;rfl)):=h
def awE(h:aq:=by simp [d]):=h
def awF(h:aq:=by (have:=xG.ae;omega)):=h
def awG(h:aq:=by (unfold VS.less VS.one;simp)):=h
def awH(h:aq:=by (rw[decDigits_length];omega)):=h
def awI(h:aq:=by (rw[ah,Gc];exact fun _ h=>h)):=h
def awJ(h:aq:=by simp [Fo.vars,i]):=h
def awK(h:aq:=by (rw[ed,<-eU];congr 1;omega)):=h
def awL(h:aq:=by (have:=n.ae;omega)):=h
def awM(h:aq:=by (have:=V.ae;omega)):=h
def awN(h:aq:=by (have:=G.ae;omega)):=h
def awO(h:aq:=by exact HX.trans c):=h
def awP(h:aq:=by (rw[G_];simp)):=h
def awQ(h:aq:=by (rw[l_.ae];omega)):=h
def awR(h:aq:=by exact n.trans i):=h
def awS(h:aq:=by exact n.trans g):=h
def awT(h:aq:=by (rw[bne_iff_ne];exact i)):=h
def awU(h:aq:=by (have:=q.den_pos;omega)):=h
def awV(h:aq:=by (rw[bne_iff_ne];omega)):=h
def awW(h:aq:=by (rw[beq_iff_eq];omega)):=h
def awX(h:aq:=by (simp only[fQ];omega)):=h
def awY(h:aq:=by (rw[yu];exact qM _ d)):=h
def awZ(h:aq:=by (rw[bC];omega)):=h
def aw0(h:aq:=by exact n.drew):=h
def aw1(h:aq:=by simp [s]):=h
def aw2(h:aq:=by simp [g]):=h
def aw3(h:aq:=by simp [e]):=h
def aw4(h:aq:=by (rw[jN.ae];exact zw)):=h
def aw5(h:aq:=by simp [Fo.homes,k]):=h
def aw6(h:aq:=by simp [Fo.homes,j]):=h
def aw7(h:aq:=by (rw[h.len];exact r)):=h
def aw8(h:aq:=by (rw[h.len];exact m)):=h
def aw9(h:aq:=by (rw[ah,Ks.ae];simp)):=h
def aw'(h:aq:=by (have:=HY.ae;omega)):=h
def aw_(h:aq:=by (unfold kN;decide)):=h
def axa(h:aq:=by (rw[bC];rfl)):=h
def axb(h:aq:=by (have:=yf g;omega)):=h
def axc(h:aq:=by (have:=E.ae;omega)):=h
def axd(h:aq:=by (rw[qA];exact rL)):=h
def axe(h:aq:=by (rw[qA];exact dI)):=h
def axf(h:aq:=by (rw[e];rfl)):=h
def ah(p:Prop):Prop:=p
def ah.ae{p:Prop}(h:ah p):p:=h
def af{p:Prop}(h:p):ah p:=h
def aY{p:Prop} [Decidable p](h:¬p:=by(omega)):decide p=false:=decide_eq_false h
def fU{p:Prop} [Decidable p](h:p:=by(omega)):decide p=true:=decide_eq_true h
abbrev aR:=Option Addr
abbrev au:=World
abbrev av(x:Int):Value:= .int .i64 x
abbrev aL(t:List UInt8):Value:= .string ⟨t.toArray⟩
abbrev aC(b o:Nat):Addr:=⟨b,o,none⟩
abbrev dC(b o:Nat):Option Addr:=some ⟨b,o,none⟩
abbrev aI(b o:Nat):Value:= .pointer (some ⟨b,o,none⟩)
abbrev aG(b o n c:Nat):Value:= .slice (some ⟨b,o,none⟩) n c
abbrev aA(w:World)(b o:Nat)(v:Value):Prop:=w.cell? ⟨b,o,none⟩=some v
instance auB{α:Type}:CoeOut (List α) Nat:=⟨List.length⟩
set_option maxRecDepth 100000
def m0(h:aq:=by
 obtain⟨l,h,rfl,rfl,hlh,hhB,HL,HH,xp⟩:=hrel;obtain⟨b0,b1⟩:=(GW.ext xp).two;by_cases oC:l<h
 ·obtain⟨md,VE⟩:∃md:Nat,md=(l+h+1)/2:=⟨_,rfl⟩;have rR:((l:Int)+h+1)/2=(md:Int):=Om;have auZ:l<md:=Om;have ar0:md<=h:=Om;clear VE;go_wp2_with fail
  refine(ZX _ Y md wr (Fl.ext xp) FB Om).mono ?_;rintro e w6 ⟨v6,rfl,qw,gI⟩;obtain⟨A6,m6,c6,rfl,VF,Dx⟩:=qw.parts;clear VF;have DR:ah (Fit (Y*md)):=adL KC (by rw[ed];exact eT _ (pd (show md<B9 by unfold B9;omega)));have dG:=af (xp.trans gI);clear gI qw b0 b1;go_wp2_with fail
  refine(aaR Dx (Gx.ext dG) DR Nj).mono ?_;rintro e w7 ⟨rfl,U1,rfl⟩;have gK:ah (Ext wo (w6.drewN U1)):=dG.drewN U1;generalize w6.drewN U1=w7 at*;by_cases hc:Y*md<=R1
  ·have hcm:decide (d7 (Y*md) R1<=0)=true:=by unfold d7;split;rfl;rw[if_neg Om];rfl
   have HC:=af hc;generalize d7 (Y*md) R1=cm at*;clear hc;go_wp2;go_roundw;exact⟨md,h,rfl,rfl,ar0,hhB,HC,HH,gK⟩;simp [RowKit.intOf];omega
  ·have hcm:decide (d7 (Y*md) R1<=0)=false:=by rw[MU Om];rfl
   have HC:ah (R1<Y*((md - 1)+1)):=by rw[ah,Nat.sub_add_cancel Om];omega
   generalize d7 (Y*md) R1=cm at*;clear hc;go_wp2;go_roundw;exact⟨l,md - 1,rfl,congrArg _ Om,by omega,by omega,HL,HC,gK⟩;simp [RowKit.intOf];omega
 ·obtain rfl:l=h:=Om;have Uy:=af (Cw.ext xp);have e3:List.replicate (k+1) 0++q=List.replicate k 0++(0::q):=awP;have apr:wr.cell? (aC (w.heap.size+1+1+1+1) k)=some (av 0):=(by have:=Sp (i:=k) Uy Oc;rw[this,e3,Bg _ _ _ _ Ou];rfl)
  have Ub:=Uy.frozen k;have I8:=af (abl (i:=k) (x:=l) Uy (z:=(l:Int)) rfl);rw[e3,yP _ _ _ _ _ Ou] at I8;have NE:ah (Below (w.heap.size+1+1+1+1) W (wr.setCell (aC (w.heap.size+1+1+1+1) k) (av (l:Int)))):=(I'.trans (xp.mono Om)).setCell (p:=aC (w.heap.size+1+1+1+1) k) (aK _) _;have agQ:=af ((Ku.ext xp).far (p:=aC (w.heap.size+1+1+1+1) k) (by show w.heap.size+1+1+1+1<w.heap.size+1+1+1+1+1;omega) (av (l:Int)));have Uu:ah (Ext w (wr.setCell (aC (w.heap.size+1+1+1+1) k) (av (l:Int)))):=qV HX (NE.mono Om);have WO:ah (val (a.drop k)=val (l::q)*Y+(R1 - Y*l)):=by rw[ah,agN.ae];exact amj Om HV (by rw[<-agN.ae];exact HL)
  have We:R1 - Y*l<Y:=by have h1:=HH.ae;have h2:=HL.ae;rw[fZ,kG] at h1;omega
  have ag1:=af (HDQ.cons (show l<B9 from hhB));have agO:ah ((l::q).length=a.length - k):=by rw[ah,cP,Kr.ae];omega
  clear e3 oC;rcases ip l with rfl|hl0
  ·rw[yt,Qt] at WO We;go_wp2;go_roundw;exact⟨k,R1,0::q,by omega,congrArg _ Om,agQ,We,ag1,agO,WO,I8,NE⟩;simp [RowKit.intOf]
  ·go_upto_region 20 with fail
   clear apr Ub;have as9:=af (Xo.ext Uu);have Yw:=af (BB.below NE Om);generalize wr.setCell (aC (w.heap.size+1+1+1+1) k) (av (l:Int))=w5 at*;obtain⟨b0,b1⟩:=Yw.two;go_wp2_with fail
   refine(ZX _ Y l w5 as9 FB Om).mono ?_;rintro e w6 ⟨v6,rfl,qw,gI⟩;obtain⟨A6,m6,c6,rfl,VF,Dx⟩:=qw.parts;clear VF qw;go_wp2_with fail;obtain⟨AN,mN,cN,eN,hNI,hNF⟩:=agQ.ae;injection eN with e1 e2 e3;subst e1 e2 e3;refine(ah5 (hNI.ext gI) Dx Nj (Nj.le HL) HL).mono ?_;rintro e w7 ⟨A7,l7,c7,rfl,agk,agf,hd7,FK,hl7,Jl,uH⟩;have gK:=af (gI.trans uH);have arM:w.heap.size+1+1+1+1+1<=w6.heap.size:=by have:=I8.lt;have:=gI.size;omega
   clear hNI hNF gI;go_wp2_with fail;refine(QV A7 c7 false l7 w7 agk hd7 FK hl7).mono ?_;rintro e w8 ⟨b8,n8,rfl,ox,fV⟩;have Po:=af ox.nat;rw[Ei,Jl] at Po;have ata:ah (pG w8 (w.heap.size+1+1+1+1+1) (.slice A7 n8 c7) (R1 - Y*l)):=⟨A7,n8,c7,rfl,Po,fun ad h=>a7 arM (agf ad h)⟩;have j8:=af (gK.trans fV);have hfd:=SX b8 A7 n8 c7;have asX:=af (I8.ext j8);have atS:ah (Below (w.heap.size+1+1+1+1) W w8):=NE.trans (j8.mono (by have:=I8.lt;omega));clear agk agf hd7 FK hl7 Jl uH fV ox b0 b1;go_wp2;go_roundw;exact⟨k,R1 - Y*l,l::q,by omega,congrArg _ Om,ata,We,ag1,agO,WO,asX,atS⟩;simp [RowKit.intOf]):=h
def m1(h:aq:=by
 have cM:(l2.length+1)*8<=140737488355328:=Om;have hw:wo.heap.size<=wr.heap.size:=mJ.zz;obtain⟨m,Ow⟩:∃m,lR.length=m:=⟨_,rfl⟩;have HM:=af Ow;rw[Ow] at hb0 hm nu qx oC mK mJ;clear Ow;go_wp2_with (at_builtin;refine gQ rfl _ _ 22 rfl wo.heap.size jE _ _ _ rfl HR.ae #[av m] 1 1 rfl rfl rfl cM hw ?_)
 intro v' w5 mF VX _;have O5:=af (jc (R:=dO) (x:=(m:Int)) cK Oe HR HC rfl mF VX);have S5:=af (mJ.agy HQ F8 (aK _) HR VX);obtain⟨A5,c5,x5,rfl,_,_,_,_⟩:=O5.parts;rw[bC,iE] at O5⊢;clear mF VX hb0 cM hw;go_upto_region 17 with fail
 obtain⟨tn,tE⟩:∃tn,[97]++ [UInt8.ofNat (97+m)]=tn:=⟨_,rfl⟩;have LT:=af (fun w'=>Q6 [97] m w' Om Ou);rw[tE] at LT;have Gs:=af tE;clear tE;obtain⟨S,eQ⟩:∃S:World->Prop,S=fun w'=>aA w' (w.heap.size+1) 0 (.slice Aa m ca):=⟨_,rfl⟩;have bO:ah (∀w',S w'->aA w' (w.heap.size+1) 0 (.slice Aa m ca)):=avQ;have cC:ah (∀w' l,ar w' (w.heap.size+1) kq (.slice Aa m ca::l)->S w'):=by rw[ah,eQ];exact fun w' l h=>h.aF 0
 clear eQ;have S5:=af (S5.ext (aB w5).drew);have O5:=af (O5.ext cK (aB w5).drew);have aH:ah (S w5.drew):=cC _ _ S5.blk;refine cD (S:=S) (T:=fun j=>decide (13<=j)) Ok ?_;generalize w5.drew=wd at*;refine ax 0 59 ?_;refine ax 1 60 ?_;refine ax 2 61 ?_;refine ax 3 62 ?_;refine ax 4 63 ?_;refine ax 6 65 ?_;refine Ip 5 7 Ok ?_ ?_
 ·skip
  intro o ho K hK;simp only[eR,dS,dy,cY] at ho;subst ho;go_simp;refine(LT _).mono ?_;rintro e wx ⟨rfl,hx⟩;have S5:=af (S5.ext hx);have O5:=af (O5.ext cK hx);refine hK.ae _ _ (fun _=>cC _ _ S5.blk) ?_;refine jF 7 Ok ?_;intro o ho K hK;simp only[eR,dS,dy,cY] at ho;subst ho;go_simp;refine hK.ae _ _ (fun _=>cC _ _ (S5.blk.ext ((aB _).alloc _))) ?_;have hgz:g<_:=cF hgo S5.zz;refine aT fun WZ cG BZ=> ?_;have S5:=af (S5.ext cG);have O5:=af (O5.ext cK cG);refine jF 8 Ok ?_;intro o ho K hK;simp only[eR,dS,dy,cY] at ho;subst ho;go_simp;refine(Ru g _ [1,2,2,3] _ S5.src BZ Om Od Od).mono ?_;rintro e wx ⟨u,hu,rfl,hs,ho⟩;have S5:=af (S5.call HQ ho hs);have O5:=af (O5.only cK ho hgo Oe);have wS:1<=u/\u<=3:=by simp only[aJ,bL,or_false] at hu;omega
  clear hs ho hu;refine hK.ae _ _ (fun _=>cC _ _ S5.blk) ?_;have aH:=af (cC _ _ S5.blk);refine ax 9 68 ?_;refine aO 10 ?_;intro K hK;go_simp;refine hK.ae _ _ (fun _=>cC _ _ (S5.blk.ext ((aB _).alloc _))) ?_;refine aT fun WZ cG BX=> ?_;have S5:=af (S5.ext cG);have O5:=af (O5.ext cK cG);clear hK;refine jF 11 Ok ?_;intro o ho K hK;simp only[eR,dS,dy,cY] at ho;subst ho;refine nh rfl ?_;obtain⟨xq,RQ,CQ⟩:=S5.oa;rw[HM.ae] at RQ;have cM:(m+1)*24<=140737488355328:=Om;refine ro _ _ 26 rfl W.heap.size abB _ _ _ rfl RQ _ [aL tn,av u] BX.ae 1 1 rfl rfl rfl cM S5.sz ?_;intro v' wq hZ iX mG;obtain⟨Aq,cq,rfl,_,_,_⟩:=ej hZ;have S6:=af (S5.agA HQ (x:=(tn,u)) HM RQ CQ hZ iX);have O6:ah (bI aS 1 dO wo.heap.size wq (.slice A5 (l2.length+1) c5) (l2++ [(m:Int)])):=by obtain⟨ys,q1,q2⟩:=O5.ae;exact⟨ys,vL q1 iX (Hq RQ q1 Od),q2⟩
  clear RQ CQ hZ iX mG BX;simp only[Act.put,d8,dP,d9];refine hK.ae _ _ (fun _=>cC _ _ S6.blk) ?_;have aH:=af (cC _ _ S6.blk);refine ax 12 71 ?_;have hc0:=S6.blk.aF 0;have ku:=S6.blk.frozen 0;obtain⟨W7,iC,S7,oH⟩:=S6.put HQ 0 (.slice Aq (m+1) cq);have kA:=af iC;have O7:=af (O6.only cK oH Om Oe);clear iC hK;refine aO 13 ?_;intro K hK;go_simp;refine hK.ae _ _ Oe ?_;rw[kA.ae];refine b_ Ok ?_;clear hc0 ku oH hK;go_wp2_with fail
  go_roundw;exact⟨l2++ [(m:Int)],lR++ [(tn,u)],.slice Aq (m+1) cq,k2 - 1,by rw[bC,HM.ae,iE];omega,by rw[bC,HM.ae,iE];omega,by rw[bC,iE];omega,by omega,by go_num,(by have h:=D1.snoc wS.1 wS.2;rw[HM.ae,show [97,UInt8.ofNat (97+m)]= [97]++ [UInt8.ofNat (97+m)] from rfl,Gs.ae] at h;exact h),by rw[bC,HM.ae,iE];exact mK.snoc,O7,S7⟩;simp [Tp];omega
 ·skip
  intro o ho K hK;simp only[eR,dS,dy,cY] at ho;subst ho;go_simp;refine hK.ae _ _ (fun _=>cC _ _ (S5.blk.ext ((aB _).alloc _))) ?_;have hgz:g<_:=cF hgo S5.zz;refine aT fun WZ cG BZ=> ?_;have S5:=af (S5.ext cG);have O5:=af (O5.ext cK cG);refine jF 5 Ok ?_;intro o ho K hK;simp only[eR,dS,dy,cY] at ho;subst ho;go_simp;refine(LT _).mono ?_;rintro e wx ⟨rfl,hx⟩;have BZ:=af (BZ.ext (hx));have S5:=af (S5.ext hx);have O5:=af (O5.ext cK hx);refine hK.ae _ _ (fun _=>cC _ _ S5.blk) ?_;refine jF 8 Ok ?_;intro o ho K hK;simp only[eR,dS,dy,cY] at ho;subst ho;go_simp;refine(Ru g _ [1,2,2,3] _ S5.src BZ Om Od Od).mono ?_;rintro e wx ⟨u,hu,rfl,hs,ho⟩;have S5:=af (S5.call HQ ho hs);have O5:=af (O5.only cK ho hgo Oe);have wS:1<=u/\u<=3:=by simp only[aJ,bL,or_false] at hu;omega
  clear hs ho hu;refine hK.ae _ _ (fun _=>cC _ _ S5.blk) ?_;have aH:=af (cC _ _ S5.blk);refine ax 9 68 ?_;refine aO 10 ?_;intro K hK;go_simp;refine hK.ae _ _ (fun _=>cC _ _ (S5.blk.ext ((aB _).alloc _))) ?_;refine aT fun WZ cG BX=> ?_;have S5:=af (S5.ext cG);have O5:=af (O5.ext cK cG);clear hK;refine jF 11 Ok ?_;intro o ho K hK;simp only[eR,dS,dy,cY] at ho;subst ho;refine nh rfl ?_;obtain⟨xq,RQ,CQ⟩:=S5.oa;rw[HM.ae] at RQ;have cM:(m+1)*24<=140737488355328:=Om;refine ro _ _ 26 rfl W.heap.size abB _ _ _ rfl RQ _ [aL tn,av u] BX.ae 1 1 rfl rfl rfl cM S5.sz ?_;intro v' wq hZ iX mG;obtain⟨Aq,cq,rfl,_,_,_⟩:=ej hZ;have S6:=af (S5.agA HQ (x:=(tn,u)) HM RQ CQ hZ iX);have O6:ah (bI aS 1 dO wo.heap.size wq (.slice A5 (l2.length+1) c5) (l2++ [(m:Int)])):=by obtain⟨ys,q1,q2⟩:=O5.ae;exact⟨ys,vL q1 iX (Hq RQ q1 Od),q2⟩
  clear RQ CQ hZ iX mG BX;simp only[Act.put,d8,dP,d9];refine hK.ae _ _ (fun _=>cC _ _ S6.blk) ?_;have aH:=af (cC _ _ S6.blk);refine ax 12 71 ?_;have hc0:=S6.blk.aF 0;have ku:=S6.blk.frozen 0;obtain⟨W7,iC,S7,oH⟩:=S6.put HQ 0 (.slice Aq (m+1) cq);have kA:=af iC;have O7:=af (O6.only cK oH Om Oe);clear iC hK;refine aO 13 ?_;intro K hK;go_simp;refine hK.ae _ _ Oe ?_;rw[kA.ae];refine b_ Ok ?_;clear hc0 ku oH hK;go_wp2_with fail
  go_roundw;exact⟨l2++ [(m:Int)],lR++ [(tn,u)],.slice Aq (m+1) cq,k2 - 1,by rw[bC,HM.ae,iE];omega,by rw[bC,HM.ae,iE];omega,by rw[bC,iE];omega,by omega,by go_num,(by have h:=D1.snoc wS.1 wS.2;rw[HM.ae,show [97,UInt8.ofNat (97+m)]= [97]++ [UInt8.ofNat (97+m)] from rfl,Gs.ae] at h;exact h),by rw[bC,HM.ae,iE];exact mK.snoc,O7,S7⟩;simp [Tp];omega):=h
def m2(h:aq:=by
 have HI:=af CI;have HF:=af hF;have HW:=af hC;have nu:c<=9223372036854775807:=hm;have JQ:(l.map (fun v:aD=>Value.string ⟨v.toArray⟩)++rest).length=(l.map (fun v:aD=>Value.string ⟨v.toArray⟩)++rest).length:=rfl;clear CI hF hC F6;generalize hx0:l.map (fun v:aD=>Value.string ⟨v.toArray⟩)++rest=tx at*;have bP:=af hx0;have hL0:l<=tx.length:=by rw[<-hx0,bC,bW];omega
 clear hx0 JQ;rcases qz:(List.range l).find? pr with _|k0
 ·have hz:iW pr l= -1:=by unfold iW;rw[qz]
  have lZ:l.filter (fun v=> !Q v)=l:=Lj.2 fun v hv=>by obtain⟨k,hk,rfl⟩:=iQ hv;have h1:=Az.1 qz k (by simpa using hk);rw[C9 k hk] at h1;simpa using h1
  rw[hz] at HI;have tQ:=af lZ;clear qz hz C8 C9 lZ;go_enter func189,ntmps189;go_wp2_with fail
  refine HI.mono ?_;rintro e w' ⟨rfl,hI,zC⟩;have mL:=af hI;have xP:=af zC;clear hI zC;go_wp2;exact bodyPost_ret (v:= .slice (some ⟨g,0,none⟩) l c) aww rfl ⟨by rw[tQ.ae],mL,rest,by rw[tQ.ae,bP.ae];exact xP.ae⟩
 ·have zu:k0<l.length:=by simpa using z_ qz
  have hz:iW pr l.length=(k0:Int):=by unfold iW;rw[qz]
  have tF:Q l[k0]=true:=by rw[<-C9 k0 zu];exact yh qz
  have hb0:∀k (hk:k<l.length),k<k0->Q l[k]=false:=fun k hk hlt=>by have h1:=(YG.1 qz).2.2 k hlt;rw[C9 k hk] at h1;simpa using h1
  have ku:(l.take (k0+1)).filter (fun v=> !Q v)=l.take k0:=(by rw[fg zu,qO,qR,tF];simp only[Em,Bool.false_eq_true,if_false,Lx,i7];refine Lj.2 fun v hv=> ?_;obtain⟨k,hk,rfl⟩:=iQ hv;rw[cJ] at hk;rw[D9,hb0 k Om Om];rfl);have hne:((k0:Int)== -1)=false:=beq_eq_false_iff_ne.2 Om;rw[hz] at HI;have KD:=af ku;clear qz hz C8 C9 tF hb0 ku h0 hB;go_enter func189,ntmps189;go_wp2_with fail
  refine HI.mono ?_;rintro e w' ⟨rfl,hI,zC⟩;have mL:=af hI;have xP:=af zC;clear hI zC;go_upto_region 5 with fail
  have zX:ah (tx.take k0=((l.take (k0+1)).filter fun v=> !Q v).map (fun v:aD=>Value.string ⟨v.toArray⟩)):=(by rw[ah,KD.ae,<-bP.ae,Lb avZ,El]);have Ky:ah (((l.take (k0+1)).filter fun v=> !Q v)=k0):=by rw[ah,KD.ae,cJ];omega
  go_loopw [5,6,7] (fun v5 v6 _ wr=>∃(i j:Nat) (zs:List Value),i<j/\j<=l/\v5= .int .i64 i/\v6= .int .i64 j/\zs.length=tx/\ah (zs.take i=((l.take j).filter fun v=> !Q v).map (fun v:aD=>Value.string ⟨v.toArray⟩))/\ah (((l.take j).filter fun v=> !Q v)=i)/\ah (zs.drop j=tx.drop j)/\ah (ar wr g bJ zs)/\ah (I wr)) (fun _ v6 _ _=>l - (RowKit.intOf v6).toNat)
  exact⟨k0,k0+1,tx,by omega,by omega,rfl,by go_num,rfl,zX,Ky,rfl,xP,mL⟩;obtain⟨i,j,zs,VP,kt,rfl,rfl,hzl,HA,HL,HD,HB,HI⟩:=hrel;by_cases hlt:j<l
  ·have NT:zs[j]? =some ((fun v:aD=>Value.string ⟨v.toArray⟩) l[j]):=by
    have h1:(zs.drop j)[0]? =(tx.drop j)[0]?:=by rw[HD.ae]
    rw[D8,D8] at h1;rw[show zs[j]? =tx[j]? from h1,<-bP.ae,nM (by rw[bW];exact hlt),dL,aX hlt];rfl
   have CF:=af (HF _ _ _ HI (a_ hlt) HB);have Di:=HB.cell NT;have HT:ah (l.take (j+1)=l.take j++ [l[j]]):=fg hlt;have DX:ah (∀ys:List Value,ys.drop j=tx.drop j->ys.drop (j+1)=tx.drop (j+1)):=fun ys h=>by have:=congrArg (List.drop 1) h;rwa[yi,yi] at this
   generalize l[j]=v at*;have hji:(0:Int)<=(j:Int):=Om;clear NT;go_wp2_with fail
   refine CF.mono ?_;rintro e w2 ⟨rfl,JS,zB⟩;have qH:=af JS;have eo:=af zB;clear JS zB Di;cases hq:Q v with
   |true=>have nH:ah ((l.take (j+1)).filter (fun v=> !Q v)=(l.take j).filter fun v=> !Q v):=awf;go_wp2;go_roundw;exact⟨i,j+1,zs,by omega,by omega,rfl,by go_num,hzl,by rw[nH.ae];exact HA,by rw[nH.ae];exact HL,DX.ae _ HD,eo,qH⟩;simp [RowKit.intOf];omega
   |false=>
    have nH:ah ((l.take (j+1)).filter (fun v=> !Q v)=((l.take j).filter fun v=> !Q v)++ [v]):=awf;have OC:i<zs.length:=Om;have zy:=eo.cell (aX OC);have qz:=eo.frozen i;obtain⟨W',hW',B7,K7,N7⟩:=gG (i:=i) eo ((fun v:aD=>Value.string ⟨v.toArray⟩) v);have xH:=af (HW _ _ qH N7);have Dv:=af hW';have Kf:=af (aaM (v:=(fun v:aD=>Value.string ⟨v.toArray⟩) v) OC);have mM:ah ((zs.set i ((fun v:aD=>Value.string ⟨v.toArray⟩) v)).drop j=zs.drop j):=List.drop_set_of_lt VP;generalize zs[i]=old at*;clear hW' K7 N7;go_upto_region 10 with fail
    rw[Dv.ae];go_wp2;go_roundw;exact⟨i+1,j+1,_,by omega,by omega,by go_num,by go_num,by rw[sR];exact hzl,by rw[ah,Kf.ae,HA.ae,nH.ae,kD];rfl,by rw[ah,nH.ae,bC,HL.ae];rfl,DX.ae _ (mM.trans HD),B7,xH⟩;simp [RowKit.intOf];omega
  ·have JB:j=l.length:=Om;subst JB;have d1:decide ((l.length:Int)<(l.length:Int))=false:=aY;have kY:ah (zs.take i=(l.filter fun v=> !Q v).map (fun v:aD=>Value.string ⟨v.toArray⟩)):=by have h:=HA.ae;rw[fj] at h;exact h
   have sj:ah ((l.filter fun v=> !Q v)=i):=by have h:=HL.ae;rw[fj] at h;exact h
   obtain⟨zs',zC,arG,arF,Wj⟩:=RJ (List.replicate (l - i) (.string ⟨#[]⟩:Value)) (o:=i) HB;have jv:∀ty,(Builtin.clear_ #[rr] ty #[.slice (some ⟨g,i,none⟩) (l - i) (c - i)]).run prog wr= .ok (.tuple #[]) (wr.setCells g i (List.replicate (l - i) (.string ⟨#[]⟩:Value))):=fun ty=>aj' wr ty g i (l - i) (c - i) Om (fun k hk=>by rw[HB.cell (aX (show i+k<zs.length by omega))];rfl) (fun k hk=>HB.frozen _);have xP:=af zC;have qG:=af Wj;have mL:=af (HW _ _ HI Wj);clear zC Wj;go_wp2_with (simp only[jv])
   exact bodyPost_ret (v:= .slice (some ⟨g,0,none⟩) i c) aww rfl ⟨by rw[sj.ae],mL,zs'.drop i,by rw[<-kY.ae,<-arF,sJ];exact xP.ae⟩):=h
def m3(h:aq:=by
 go_upto_region 18 with fail
 obtain⟨tn,tE⟩:∃tn,[114]++ [UInt8.ofNat (97+i)]=tn:=⟨_,rfl⟩;have LT:=af (fun w'=>Q6 [114] i w' Om Ou);rw[tE] at LT;have Gs:=af tE;clear tE;have Uh:1<=lR.length:=Om;have dA:ah (IL wr (.slice Al l2.length cl) l2):=dY.ls;have jN:ah (ry lR.length (ay++ [(tn,l2)])):=(by have h:=ry.snoc (ic.mono (by rw[zQ.ae];exact qx)) (x:=l2) (fun e=>hl0 axf) mK.uF mK.tK;rw[gL.ae,show [114,UInt8.ofNat (97+i)]= [114]++ [UInt8.ofNat (97+i)] from rfl,Gs.ae] at h;exact h)
 have WT:ah (Ng lR.length (ay++ [(tn,l2)])):=fun a ha=>by
  rcases cA a n0 with h|h
  ·obtain⟨r,hr,h'⟩:=WU a (by rw[zQ.ae];exact h);exact⟨r,bV.2 (.inl hr),h'⟩
  ·exact⟨_,bV.2 (.inr (bG.2 rfl)),mK.all a h ha⟩
 clear hb0;have h_:=af (mJ.ae).MZ;have hb1:=h_.blk.aF 1;go_upto_region 20 with fail
 obtain⟨S,eQ⟩:∃S:World->Prop,S=fun w'=>aA w' (w.heap.size+1) 1 (.slice A1 i c1):=⟨_,rfl⟩;have bO:ah (∀w',S w'->aA w' (w.heap.size+1) 1 (.slice A1 i c1)):=avQ;have cC:ah (∀w' x l,ar w' (w.heap.size+1) kq (x:: .slice A1 i c1::l)->S w'):=by rw[ah,eQ];exact fun w' x l h=>h.aF 1
 clear eQ hb1;have h_:=af (h_.ext (aB wr).drew);have aH:ah (S (wr).drew):=cC _ _ _ h_.blk;refine cD (S:=S) (T:=fun j=>decide (9<=j)) Ok ?_;generalize(wr).drew=wd at*;refine ax 0 76 ?_;refine ax 1 77 ?_;refine ax 2 78 ?_;refine ax 4 80 ?_;refine aO 3 ?_;intro K hK;go_simp;refine(LT _).mono ?_;rintro e wx ⟨rfl,hx⟩;have h_:=af (h_.ext hx);refine hK.ae _ _ (fun _=>cC _ _ _ h_.blk) ?_;clear hK hx;have aH:=af (cC _ _ _ h_.blk);refine ax 5 81 ?_;refine aO 6 ?_;intro K hK;go_simp;refine hK.ae _ _ (fun _=>cC _ _ _ (h_.blk.ext ((aB _).alloc _))) ?_;refine aT fun WZ cG BX=> ?_;have h_:=af (h_.ext cG);clear hK;refine jF 7 Ok ?_;intro o ho K hK;simp only[eR,dS,dy,cY] at ho;subst ho;refine nh rfl ?_;obtain⟨xq,RQ,CQ⟩:=h_.ol;rw[gL.ae] at RQ;have cM:(i+1)*40<=140737488355328:=Om;refine ro _ _ 27 rfl W.heap.size aaW _ _ _ rfl RQ _ [aL tn,.slice Al l2.length cl] BX.ae 1 1 rfl rfl rfl cM h_.sz ?_;intro v' wq hZ iX mG;obtain⟨Aq,cq,rfl,_,_,_⟩:=ej hZ;have S6:=af (h_.agx HQ (x:=(tn,l2)) gL RQ CQ dA hZ iX);clear RQ CQ hZ iX mG BX;simp only[Act.put,d8,dP,d9];refine hK.ae _ _ (fun _=>cC _ _ _ S6.blk) ?_;have aH:=af (cC _ _ _ S6.blk);refine ax 8 84 ?_;have hc0:=S6.blk.aF 1;have ku:=S6.blk.frozen 1;obtain⟨W7,iC,S7,oH⟩:=S6.put HQ 1 (.slice Aq (i+1) cq);have kA:=af iC;clear iC hK;refine aO 9 ?_;intro K hK;go_simp;refine hK.ae _ _ Oe ?_;rw[kA.ae];refine b_ Ok ?_;clear hc0 ku oH hK;go_wp2_with fail
 go_roundw;exact⟨i+1,_,_,lR,ay++ [(tn,l2)],_,by omega,by go_num,by rw[bC,gL.ae];rfl,nu,fun _=>Uh,D1,jN,WT,S7⟩;simp [RowKit.intOf];omega):=h
def m4(h:aq:=by
 simp only[Act.put,d8,dP,d9];have hgd:=adB jw;refine aO 4 ?_;intro K hK;go_simp;refine hK.ae _ _ (fun _=>aH.alloc _) ?_;refine aT fun WZ cG BZ=> ?_;have Pk:=af (vO jw cG);have oQ:=af (jy.MH (.je cG.ae));have WX:=af (fu Ki cG);have dD:=af (cH.trans cG);have Dq:ah (WZ.ownsRow wd.heap.size eM 2 (aG wd.heap.size 0 1 1) 1 [.slice Bi xv di,av xw]):=ac1 BZ rfl (aK _) Od;have hzz:wd.heap.size<=WZ.heap.size:=cG.size;clear hK;have hlx:xs.length=o.length*2:=Pk.1;have Jt:(xs.drop (k*2)).length=(o - k)*2:=by rw[o8,hlx];omega
 have Dk:(1+(o - k))*32<=140737488355328:=Om;have hb9:(k+(1+(o - k)))*32<=140737488355328:=Om;obtain⟨ad,had,hsl⟩:∃ad,(if co=k then some (⟨go',0,none⟩:Addr) else dC go' (k*2))=some ad/\Sl WZ eM (some ad) (xs.drop (k*2)):=by
  by_cases F6:co=k
  ·have h0:xs.drop (k*2)= []:=mh (by rw[Jt];omega);exact⟨⟨go',0,none⟩,if_pos F6,by rw[h0];exact Sl.nil⟩
  ·exact⟨⟨go',k*2,none⟩,if_neg F6,akG Pk⟩
 rw[had];have zN:=af hsl;clear had hsl;refine jF 8 Ok ?_;intro oo mE K hK;simp only[eR,dS,dy,cY] at mE;subst mE;refine nh rfl ?_;refine ME _ _ kK rfl wd.heap.size AY _ _ _ rfl Dq.ae ad (o - k) (co - k) (xs.drop (k*2)) rfl Jt zN (fun u hu=>abY oQ u (Ha hu)) Dk hzz ?_;intro v8 w8 Jq agd _;have JD:WZ.grownBy w8 (some wd.heap.size):=agd;clear agd;obtain⟨A8,c8,rfl,_,_,_⟩:=ej Jq;obtain⟨g8,rfl,avj,avi⟩:=Sa Jq Om;have nE:=af Jq;have KF:=af (mn cG Dq JD (aK _));have HK8:ah (Kept bJ WZ w8):=pZ Dq JD Od;have j8:=af (mn dD Dq JD hzw);have Kp:=af (vL Pk JD (fun q hq he=>by
  have e1:wd.heap.size=q:=by injection hq
  have e2:go'=q:=by simpa [Value.ownBlock] using he
  have:=hgd;omega))
 have xN:=af (oQ.MH HK8);have Kh:=af (TL.Ts WX HK8);have zi:w.heap.size<=w8.heap.size:=j8.size;clear Jq JD BZ;simp only[Act.put,d8,dP,d9];refine hK.ae _ _ (fun _=>KF.ae) ?_;clear hK;refine jF 9 Ok ?_;intro oo mE K hK;simp only[eR,dS,dy,cY] at mE;subst mE;refine nh rfl ?_;have hl9:([Value.slice Bi xv.length di,av xw]++xs.drop (k*2)).length=(1+(o.length - k))*2:=by rw[bC,Jt];simp;omega
 refine ME _ _ kK rfl w.heap.size AY _ _ _ rfl (Ro Kp hk) ⟨g8,0,none⟩ _ _ _ rfl hl9 (Ib nE) ?_ hb9 zi ?_
 ·intro u hu;rcases bV.1 hu with hu|hu
  ·rcases aJ.1 hu with rfl|hu
   ·rfl
   ·rw[bG.1 hu];rfl
  ·exact abY xN u (Ha hu)
 intro v9 w9 C_ I4 _;have De:w8.grownBy w9 (some go'):=I4;clear I4;have HK9:ah (Kept bJ w8 w9):=pZ (Ro Kp hk) De Od;have eE:=af (mn j8 (Ro Kp hk) De (aK _));have iY:=af (apy (x:=(xv,xw)) (k:=k) (xN.MH HK9) (TL.Ts Kh HK9));have kX:ah (bI eM 2 eI w.heap.size w9 v9 (o.take k++(xv,xw)::o.drop k)):=⟨_,by have e:(o.take k++(xv,xw)::o.drop k).length=k+(1+(o.length - k)):=(by rw[bC,cJ,cP,o8];omega);rw[e];exact C_,iY⟩
 obtain⟨A9,c9,rfl,_,_,_⟩:=ej C_;clear C_ De;simp only[Act.put,d8,dP,d9];refine hK.ae _ _ Oe ?_;clear hK;refine aO 10 ?_;intro K hK;go_simp;refine hK.ae _ _ Oe ?_;refine b_ Ok ?_;clear hK;go_wp2_with fail;go_roundw;exact⟨i+1,by omega,by go_num,by rw[mf.ae,HN.ae];exact kX,eE⟩;simp [RowKit.intOf];omega):=h
def m5(h:aq:=by
 go_upto_region 58 with fail
 go_loopw [19] (fun v19 wr=>∃k:Nat,k<=i/\v19= .int .i64 k/\ah (Ext w6 wr)) (fun v19 _=>i - (RowKit.intOf v19).toNat)
 exact⟨0,aV _,rfl,aB _⟩;obtain⟨k,zv,rfl,ib⟩:=hrel;by_cases Jy:k<i
 ·have dR:k<x.bf.length:=Om;have hkM:k<M:=Om;have JM:=xM k Jy;have xD:=af (fun w' hx=>HP w' hx k dR);generalize x.bf[k].1=ak at*;clear dR;have D3:=af (qK.ext ib);have oV:=af (BA.ext ib);have DT:=af (zW.trans ib);clear s0 s1 s2 s3 q0 q1 q2 nx;go_upto_region 60 with fail
  have bO:ah (∀w',Ext wr w'->aA w' w.heap.size 2 (aG g o M e)/\aA w' g (o+k*3) (.int .i64 ak)/\aA w' wo.heap.size 0 (.int .i64 q)):=fun w' hx=>⟨(D3.ext hx).aF 2,xD.ae w' (DT.trans hx),(oV.ext hx).aF 0⟩;have aH:ah (Ext wr wr.drew):=(aB wr).drew;refine cD (S:=fun w'=>Ext wr w') (T:=fun _=>false) Ok ?_;refine ax 0 235 ?_;refine ax 1 236 ?_;refine ax 2 237 ?_;refine ax 3 238 ?_;refine ax 4 239 ?_;refine ax 5 240 ?_;refine ax 6 241 ?_;refine ax 7 242 ?_;refine ax 8 243 (v:= .bool false) ?_;refine b_ Ok ?_;have kV:=af (ib.trans aH);clear bO aH;go_wp2_with fail
  go_roundw;exact⟨k+1,by omega,by go_num,kV⟩;simp [RowKit.intOf];omega
 ·obtain rfl:i=k:=Om;have oV:=af (BA.ext ib);have D3:=af (qK.ext ib);have kV:=af (j7.trans ib);clear s0 s1 s2 s3 q0 q1 q2 nx;obtain⟨s0,s1,s2,s3⟩:=D3.four;have q0:=oV.aF 0;go_wp2_with fail
  go_roundw;exact⟨i+1,by omega,by go_num,kV⟩;simp [RowKit.intOf];omega):=h
def m6(h:aq:=by
 skip
 obtain⟨tn,tE⟩:∃tn,[114]++ [UInt8.ofNat (97+i)]=tn:=⟨_,rfl⟩;have LT:=af (fun w'=>Q6 [114] i w' Om Ou);rw[tE] at LT;have Gs:=af tE;clear tE;have Uh:1<=lR.length:=Om;go_upto_region 20 with fail
 refine aT fun W5 dX BI=> ?_;have dA:ah (IL W5 (aG wr.heap.size 0 1 1) [0]):=k9 (l:= [(0:Int)]) BI ⟨[av 0],[],rfl,rfl,rfl⟩ Ou;have kB:=af (mJ.ext dX);have jN:ah (ry lR.length (ay++ [(tn,[0])])):=by have h:=ry.snoc (ic.mono (by rw[zQ.ae];exact qx)) (x:= [0]) Ou (fun a ha=>by rw[bG.1 ha];omega) (Ld _ _);rw[gL.ae,show [114,UInt8.ofNat (97+i)]= [114]++ [UInt8.ofNat (97+i)] from rfl,Gs.ae] at h;exact h
 have WT:ah (Ng lR.length (ay++ [(tn,[0])])):=fun a ha=>by
  rcases cA a n0 with h|h
  ·obtain⟨r,hr,h'⟩:=WU a (by rw[zQ.ae];exact h);exact⟨r,bV.2 (.inl hr),h'⟩
  ·have:=mK.all a h ha;cases this
 clear hb0 BI;have h_:=af (kB.ae).MZ;have hb1:=h_.blk.aF 1;go_upto_region 20 with fail
 obtain⟨S,eQ⟩:∃S:World->Prop,S=fun w'=>aA w' (w.heap.size+1) 1 (.slice A1 i c1):=⟨_,rfl⟩;have bO:ah (∀w',S w'->aA w' (w.heap.size+1) 1 (.slice A1 i c1)):=avQ;have cC:ah (∀w' x l,ar w' (w.heap.size+1) kq (x:: .slice A1 i c1::l)->S w'):=by rw[ah,eQ];exact fun w' x l h=>h.aF 1
 clear eQ hb1;have h_:=af (h_.ext (aB W5).drew);have aH:ah (S (W5).drew):=cC _ _ _ h_.blk;refine cD (S:=S) (T:=fun j=>decide (9<=j)) Ok ?_;generalize(W5).drew=wd at*;refine ax 0 76 ?_;refine ax 1 77 ?_;refine ax 2 78 ?_;refine ax 4 80 ?_;refine aO 3 ?_;intro K hK;go_simp;refine(LT _).mono ?_;rintro e wx ⟨rfl,hx⟩;have h_:=af (h_.ext hx);refine hK.ae _ _ (fun _=>cC _ _ _ h_.blk) ?_;clear hK hx;have aH:=af (cC _ _ _ h_.blk);refine ax 5 81 ?_;refine aO 6 ?_;intro K hK;go_simp;refine hK.ae _ _ (fun _=>cC _ _ _ (h_.blk.ext ((aB _).alloc _))) ?_;refine aT fun WZ cG BX=> ?_;have h_:=af (h_.ext cG);clear hK;refine jF 7 Ok ?_;intro o ho K hK;simp only[eR,dS,dy,cY] at ho;subst ho;refine nh rfl ?_;obtain⟨xq,RQ,CQ⟩:=h_.ol;rw[gL.ae] at RQ;have cM:(i+1)*40<=140737488355328:=Om;refine ro _ _ 27 rfl W.heap.size aaW _ _ _ rfl RQ _ [aL tn,aG wr.heap.size 0 1 1] BX.ae 1 1 rfl rfl rfl cM h_.sz ?_;intro v' wq hZ iX mG;obtain⟨Aq,cq,rfl,_,_,_⟩:=ej hZ;have S6:=af (h_.agx HQ (x:=(tn,[0])) gL RQ CQ dA hZ iX);clear RQ CQ hZ iX mG BX;simp only[Act.put,d8,dP,d9];refine hK.ae _ _ (fun _=>cC _ _ _ S6.blk) ?_;have aH:=af (cC _ _ _ S6.blk);refine ax 8 84 ?_;have hc0:=S6.blk.aF 1;have ku:=S6.blk.frozen 1;obtain⟨W7,iC,S7,oH⟩:=S6.put HQ 1 (.slice Aq (i+1) cq);have kA:=af iC;clear iC hK;refine aO 9 ?_;intro K hK;go_simp;refine hK.ae _ _ Oe ?_;rw[kA.ae];refine b_ Ok ?_;clear hc0 ku oH hK;go_wp2_with fail
 go_roundw;exact⟨i+1,_,_,lR,ay++ [(tn,[0])],_,by omega,by go_num,by rw[bC,gL.ae];rfl,nu,fun _=>Uh,D1,jN,WT,S7⟩;simp [RowKit.intOf];omega):=h
def m7(h:aq:=by
 go_wp2_with fail
 refine(ru g 4 _ (dJ.ae).src Od Od).mono ?_;rintro e wx ⟨r2,hr2,rfl,rN,pL⟩;have dJ:=af ((dJ.ae).call HQ pL rN);have vy:=af (vy.only pL Om);clear rN pL kS;have kS:=vy.aF 1;by_cases hr2:0<r2
 ·have hb2:decide ((r2:Int)>0)=true:=fU;go_upto_region 27 with fail
  obtain⟨S,eQ⟩:∃S:World->Prop,S=fun w'=>aA w' (w.heap.size+1) 2 (.slice Af bf.length cf):=⟨_,rfl⟩;have bO:ah (∀w',S w'->aA w' (w.heap.size+1) 2 (.slice Af bf.length cf)):=avQ;have cC:ah (∀w' x y l,ar w' (w.heap.size+1) kq (x::y:: .slice Af bf.length cf::l)->S w'):=by rw[ah,eQ];exact fun w' x y l h=>h.aF 2
  clear eQ;have dJ:=af (dJ.ext (aB wx).drew);have aH:ah (S (wx).drew):=cC _ _ _ _ dJ.blk;refine cD (S:=S) (T:=fun j=>decide (9<=j)) Ok ?_;generalize(wx).drew=wd at*;refine ax 0 118 ?_;refine ax 1 119 ?_;refine ax 2 120 ?_;refine ax 3 121 ?_;refine aO 4 ?_;intro K hK;go_simp;refine(ru g 2 _ dJ.src Od Od).mono ?_;rintro e wy ⟨ms,hms,rfl,rN,pL⟩;have dJ:=af (dJ.call HQ pL rN);refine hK.ae _ _ (fun _=>cC _ _ _ _ dJ.blk) ?_;clear hK rN pL;have aH:=af (cC _ _ _ _ dJ.blk);refine ax 5 123 ?_;refine aO 6 ?_;intro K hK;go_simp;refine hK.ae _ _ (fun _=>cC _ _ _ _ (dJ.blk.ext ((aB _).alloc _))) ?_;refine aT fun WZ cG BX=> ?_;have dJ:=af (dJ.ext cG);clear hK;refine jF 7 Ok ?_;intro o ho K hK;simp only[eR,dS,dy,cY] at ho;subst ho;refine nh rfl ?_;obtain⟨xq,RQ,CQ⟩:=dJ.of;have cM:(bf.length+1)*24<=140737488355328:=by have:=tR.len;omega
  refine ro _ _ 28 rfl W.heap.size abv _ _ _ rfl RQ _ [av j,av 1,av ms] BX.ae 1 1 rfl rfl rfl cM dJ.sz ?_;intro v' wq hZ iX mG;obtain⟨Aq,cq,rfl,_,_,_⟩:=ej hZ;have S6:=af (dJ.agz HQ (x:=((j:Int),1,(ms:Int))) rfl RQ CQ hZ iX);clear RQ CQ hZ iX mG BX;simp only[Act.put,d8,dP,d9];refine hK.ae _ _ (fun _=>cC _ _ _ _ S6.blk) ?_;have aH:=af (cC _ _ _ _ S6.blk);refine ax 8 126 ?_;have hc0:=S6.blk.aF 2;have ku:=S6.blk.frozen 2;obtain⟨W7,iC,S7,oH⟩:=S6.put HQ 2 (.slice Aq (bf.length+1) cq);have kA:=af iC;clear iC hK;refine aO 9 ?_;intro K hK;go_simp;refine hK.ae _ _ Oe ?_;rw[kA.ae];refine b_ Ok ?_;have mf:=af (tR.snoc X_ (k:=1) (m:=(ms:Int)) (.inl ⟨rfl,rfl,by omega⟩));clear hc0 ku oH hK kS;go_wp2_with fail
  go_roundw;exact⟨j+1,_,bf++ [((j:Int),1,(ms:Int))],_,by omega,by go_num,mf,S7⟩;simp [RowKit.intOf];omega
 ·have hb2:decide ((r2:Int)>0)=false:=aY;go_wp2_with fail;go_roundw;exact⟨j+1,_,bf,_,by omega,by go_num,tR.skip,dJ⟩;simp [RowKit.intOf];omega):=h
def m8(h:aq:=by
 intro k b hb us w3 hI pN _ o ho K hK;obtain⟨Wm,JS⟩:=su w3 hI;have Jo:pb<W.heap.size:=cF hpl HX.size;have hsz:W.heap.size<=w3.heap.size:=Wm.size;have vh:=af Wm;have qH:=af JS;have HK:=af (fun v w' (hc:a8 [pb] w3 w') (hm:dl x pb w') (h0:b.R v w')=>hK v w' (jQ w' (vh.trans hc) hm) h0 fun j c hj _ u hu=>by
  refine⟨?_,trivial,trivial⟩;rcases j with _|_|_|_|j;all_goals simp only[dy,dS,Y2,cY,reduceCtorEq] at hj
  all_goals subst hj
  ·exact Fi.cy hu qH hc
  ·exact Cu.cy hu hc Jo
  ·exact Ct.cy hu hc Jo
  ·exact Cv.cy hu hc Jo)
 clear hK Wm JS hI;rcases k with _|_|_|_|k
 ·have CP:=af (ak' jb pb x T aN first w3 (HBW.cy HMW hne vh) qH h1 h2);simp only[dy,cY] at hb;subst hb;clear pN;simp only[eR,dS,dy,cY] at ho;subst ho;simp only[eK];go_simp;have j9:=HK.ae;simp only[eK,Act.put,d8,dP,d9] at j9;refine CP.mono ?_;rintro e5 w5 ⟨u5,rfl,hp5,VG,oG⟩;exact j9 _ _ oG VG hp5
 ·have kR:=akY x.ai Om;simp only[dy,dS,cY] at hb;subst hb;clear pN;simp only[eR,dS,dy,cY] at ho;subst ho;simp only[eK];go_simp;have j9:=HK.ae;simp only[eK,Act.put,d8,dP,d9] at j9;exact j9 _ _ (.gV ((aB w3).alloc _)) (qH.ext ((aB w3).alloc _)) ⟨_,rfl,by unfold s5;rw[LU];exact iT w3 bJ (List.replicate x.ai (Value.string ⟨#[]⟩)),hsz⟩
 ·have kR:=Hs x.ai Om;simp only[dy,dS,cY] at hb;subst hb;clear pN;simp only[eR,dS,dy,cY] at ho;subst ho;simp only[eK];go_simp;have j9:=HK.ae;simp only[eK,Act.put,d8,dP,d9] at j9;exact j9 _ _ (.gV ((aB w3).alloc _)) (qH.ext ((aB w3).alloc _)) ⟨_,rfl,by unfold fG;rw[LU];exact iT w3 fH (List.replicate x.ai (Value.bool false)),hsz⟩
 ·skip
  simp only[dy,dS,cY] at hb;subst hb;clear pN;simp only[eR,dS,dy,cY] at ho;subst ho;simp only[eK];go_simp;have j9:=HK.ae;simp only[eK,Act.put,d8,dP,d9] at j9;exact j9 _ _ (.gV ((aB w3).alloc _)) (qH.ext ((aB w3).alloc _)) ⟨_,rfl,Ic w3 bJ,hsz⟩
 ·simp at hb):=h
def m9(h:aq:=by
 have arT:q≠ob:=fun e=>by have h1:=HQ.ae;have h2:=HB.ae;subst e;unfold ar at h1 h2;rw[h1] at h2;injection h2 with h;injection h with _ h;exact absurd h Od
 have b0:=HB.aF 0;have f0:=HB.frozen 0;have Db:=HB.lt;obtain⟨W4,F9,B4,K4,N4⟩:=gG (i:=0) HB.ae (aG q 0 x.ai x.ai);have mJ:=af (oL.past N4 Om);have WJ:ah (Only g W W4):=xj.fresh N4 VC;have HQ4:=af (HQ.only N4 arT);have HSn:=af (jQ _ WJ mJ);refine aO 11 ?_;intro K hK;go_simp;refine hK.ae _ _ (fun _=>HSn.ae) ?_;clear hK b0 f0 K4 N4;refine aO 12 ?_;intro K hK;go_simp;refine hK.ae _ _ (fun _=>HSn.ae) ?_;refine b_ Ok ?_;clear hK;have vu:=af (BR.only WJ Om);have o0:=B4.aF 0;have r0:=vu.aF 0;have f0:=vu.frozen 0;have Ox:=vu.lt;obtain⟨W5,hW5,B5,K5,N5⟩:=gG (i:=0) vu.ae (aG q 0 x.ai x.ai);have kB:=af (mJ.past N5 Om);have rV:ah (Only g w W5):=((ep (g:=g) HX).trans WJ.ae).fresh N5 Om;have Xd:=af (HQ4.only N5 Om);clear K5 N5 F9;go_wp2_with fail
 exact bodyPost_ret (results_cell_row rfl _ _ (w.heap.size+1) uB #[aG q 0 x.ai x.ai] (0,0) _ rfl B5.ae underlying32 rfl Ok) rfl ⟨q,pp,dd,rfl,Xd,kC,by omega,kB,rV⟩):=h
def m10(h:aq:=by
 go_wp2_with fail
 have bP:ah (Ext w (((w.alloc (Obj.cells #[Value.bool ba,Value.slice Aa na ca] cV)).alloc (Obj.cells #[Value.bool bb,Value.slice Ab nb cb] cV)).alloc (Obj.cells #[Value.bool false,Value.slice none 0 0] cV))):=(((aB w).alloc _).alloc _).alloc _;have H0:=af (kP.new w (.bool ba) (.slice Aa na ca) (.bool bb) (.slice Ab nb cb) (.bool false) (.slice none 0 0));generalize((w.alloc (Obj.cells #[Value.bool ba,Value.slice Aa na ca] cV)).alloc (Obj.cells #[Value.bool bb,Value.slice Ab nb cb] cV)).alloc (Obj.cells #[Value.bool false,Value.slice none 0 0] cV)=W at*;exact Fx):=h
def m11(h:aq:=by
 refine jF 5 Ok ?_;intro o ho K hK;simp only[eR,dS,dy,cY] at ho;subst ho;refine nh rfl ?_;have hown:=HO rfl;refine ro _ _ rr rfl wr.heap.size str_slice _ _ _ rfl hown _ [aL t] (BN rfl) 1 1 rfl rfl rfl cM HX.size ?_;intro vA wA hoA VV _;have HA:ah (NG wr.heap.size (kp.length+1) (kp.map encStr++ [aL t]) vA wA):=hoA;have HX:=af (mn HX hown VV (aK _));clear hown hoA VV;simp only[Act.put,d8,dP,d9];refine hK.ae _ _ (fun _=>cC _ HX) ?_;clear hK;refine jF 9 Ok ?_;intro o ho K hK;simp only[eR,dS,dy,cY] at ho;subst ho;go_simp;refine(CWr _ HX).mono ?_;rintro eW wW ⟨gW,rfl,hfW,hgW,FH⟩;have HFx:ah (FxQ wr.heap.size gW (ij fx a t) wW):=⟨hfW,a7 HX.size hgW⟩;have HA:=af (HA.ext (FH));have HX:=af (HX.trans FH);refine hK.ae _ _ (fun _=>cC _ HX) ?_;clear hK;obtain⟨A5,c5,rfl, -, -, -⟩:=ej HA;have Gt:=ao7 HA;have T_:(kp++ [t]).length=kp.length+1:=axa;rw[T_] at Gt;have Xz:=HE.hS dn wr _ HI (.gV HX.ae) ((HE.hJ dn wr HI).ext HX.ae);have CI:=HIH t dn gW _ A5 c5 Xz HFx.1 (a7 (F8.size) HFx.2) (by rw[T_];exact Gt) (by rw[HGN.ae t];exact Ue);rw[T_] at CI;refine aO 10 ?_;intro K hK;go_simp;refine CI.mono ?_;rintro e6 w6 ⟨rfl,hI6,JJ⟩;have aH:=af ((HE.cells (HE.hI _ w6 hI6)).2.2.2);refine hK.ae _ _ (fun _=>aH.ae) ?_;clear hK;have DO:=af hI6;have qJ:=af ((HC.trans (.of (.gV HX.ae))).trans JJ);refine ax 11 47 ?_;refine b_ Ok ?_;go_wp2_with fail
 go_roundw
 ·refine⟨k+1,by omega,by go_num,?_,qJ⟩;rw[ah,gh.ae,<-XF.ae t];exact DO
 simp [RowKit.intOf];omega):=h
def m12(h:aq:=by have bP:ah (Ext w (((w.alloc (Obj.cells #[Value.bool ba,Value.slice Aa na ca] bk)).alloc (Obj.cells #[Value.bool bb,Value.slice Ab nb cb] bk)).alloc (Obj.cells #[Value.bool false,Value.slice none 0 0] bk))):=(((aB w).alloc _).alloc _).alloc _;have H0:=af (fA.new w (.bool ba) (.slice Aa na ca) (.bool bb) (.slice Ab nb cb) (.bool false) (.slice none 0 0));generalize((w.alloc (Obj.cells #[Value.bool ba,Value.slice Aa na ca] bk)).alloc (Obj.cells #[Value.bool bb,Value.slice Ab nb cb] bk)).alloc (Obj.cells #[Value.bool false,Value.slice none 0 0] bk)=W at*;obtain⟨c0,c1,c2,c3⟩:=H0.cells;exact Jh):=h
def m13(h:aq:=by
 refine C.mono ?_;rintro e w2 ⟨u,rfl,hu,hx⟩;obtain⟨a0,A0,a1,a2,b0,B0,b1,b2,rfl, -, -⟩:=hu.parts;have HU:=af hu;have aZ:=af (HX.trans hx);have xX:=af (BT.ext hx);obtain⟨k0,k1,k2,k3⟩:=xX.four;obtain⟨f0,f1,f2,f3⟩:=xX.eX;go_wp2_with fail
 exact sW rfl rfl rfl xX.ae HU fun v W' g1 g2=>⟨v,rfl,g1,aZ.only g2 Om⟩):=h
def m14(h:aq:=by
 rw[<-HA.inv.1,<-HB.inv.1] at hd;have HD:=af hd;go_enter func148,ntmps148;go_wp2_with fail
 have bP:ah (Ext w ((((w.alloc (Obj.cells #[Value.bool ba,Value.slice Aa na ca] cV)).alloc (Obj.cells #[Value.bool bb,Value.slice Ab nb cb] cV)).alloc (Obj.cells #[Value.bool false,Value.slice none 0 0] cV)).alloc (Obj.cells #[Value.bool false,Value.slice none 0 0] cV))):=((((aB w).alloc _).alloc _).alloc _).alloc _;have H0:=af ((kP.new w (.bool ba) (.slice Aa na ca) (.bool bb) (.slice Ab nb cb) (.bool false) (.slice none 0 0)).ext ((aB _).alloc (Obj.cells #[Value.bool false,Value.slice none 0 0] cV)));have H4:=af (jg (((w.alloc (Obj.cells #[Value.bool ba,Value.slice Aa na ca] cV)).alloc (Obj.cells #[Value.bool bb,Value.slice Ab nb cb] cV)).alloc (Obj.cells #[Value.bool false,Value.slice none 0 0] cV)) cV [.bool false,.slice none 0 0] (w.heap.size+1+1+1) Ou);have h4:(Obj.cells #[Value.bool false,Value.slice none 0 0] cV)=(Obj.cells [Value.bool false,Value.slice none 0 0].toArray cV):=rfl;rw[<-h4] at H4;generalize(((w.alloc (Obj.cells #[Value.bool ba,Value.slice Aa na ca] cV)).alloc (Obj.cells #[Value.bool bb,Value.slice Ab nb cb] cV)).alloc (Obj.cells #[Value.bool false,Value.slice none 0 0] cV)).alloc (Obj.cells #[Value.bool false,Value.slice none 0 0] cV)=W at*;refine(ai9 _ _ x.natAbs y.natAbs W (HA.inv.2.ext bP) (HB.inv.2.ext bP) FX.fit FY.fit aw').mono ?_;rintro e w1 ⟨q,r,rfl,hq,hr,hx1⟩;obtain⟨Aq,nq,cq,rfl,_,_,HQ⟩:=hq.parts;obtain⟨Ar,nr,cr,rfl,Oh,hrc,HR⟩:=hr.parts;have bQ:=af (bP.trans hx1);have H1:=af (H0.ext hx1);have H5:=af (H4.ext hx1);have fq:ah (Fit (x.natAbs/y.natAbs)):=FX.fit.le (AE _ _);have fr:ah (Fit (x.natAbs%y.natAbs)):=FX.fit.le (Nat.mod_le _ _);obtain⟨c0,c1,c2,c3⟩:=H1.cells;exact k14):=h
def m15(h:aq:=by
 have HV:=af hV;have HF:=af hF;have nu:c<=9223372036854775807:=hm;have xI:=af h0;clear hV hF h0;go_enter func225,ntmps225;go_upto_region 2 with fail
 have PE:ah (∀k,k<0->P k=false):=fun k hk=>by omega
 go_loopw [5,8] (fun _ v8 wr=>∃j:Nat,j<=n/\v8= .int .i64 j/\ah (I wr)/\ah (∀k,k<j->P k=false)) (fun _ v8 _=>n - (RowKit.intOf v8).toNat)
 exact⟨0,aV _,rfl,xI,PE⟩;obtain⟨j,hj,rfl,HI,HB⟩:=hrel;by_cases kt:j<n
 ·obtain⟨g,o,hA,hcell⟩:=HV _ _ HI kt;try obtain⟨hcell,aun⟩:=hcell
  have CF:=HF _ _ HI kt;subst hA;go_wp2_with fail;refine CF.mono ?_;rintro e w' ⟨rfl,hI⟩;have mL:=af hI;clear hI CF hcell;cases hp:P j with
  |true=>have hres:=H7 kt hp HB;go_wp2;exact bodyPost_ret (v:= .int .i64 j) (by simp [results,results225,go_sem]) rfl ⟨by rw[hres],mL⟩
  |false=>
   clear hid;have xP:ah (∀k,k<j+1->P k=false):=fun k hk=>by
    rcases cA k j with h|h
    ·exact HB k h
    ·rw[show k=j by omega];exact hp
   go_wp2;go_roundw;exact⟨j+1,by omega,by go_num,mL,xP⟩;simp [RowKit.intOf];omega
 ·have d1:decide ((j:Int)<(n:Int))=false:=aY;have ar8:j=n:=Om;subst ar8;have hres:=H8 HB;go_wp2;exact bodyPost_ret (v:= .int .i64 (-1)) (by simp [results,results225,go_sem]) rfl ⟨by rw[hres],HI⟩):=h
def m16(h:aq:=by
 have Vr:t/B9<=1:=avP;have Vq:t%B9<1000000000:=eF _ Od;have mM:=af (HD.snoc (x:=t%B9) (eF _ Od));generalize t%B9=p at*;generalize t/B9=q at*;go_wp2_with (at_builtin;refine gQ rfl _ _ pI rfl w.heap.size jE _ _ _ rfl HO.ae #[.int .i64 (p:Int)] 1 1 rfl rfl rfl Om HX.size ?_)
 intro v' w3 eD hg3 _;have cH:ah (Ext w w3):=ud HX hg3 HX.size (fun k hk=>(HO.lt k hk).1);have fX:ah (w3.ownsRow w.heap.size tI 1 v' (k+1) (dF (r++ [p]))):=by rw[ah,EF];exact eD
 clear eD hg3 et;go_wp2;go_roundw;exact⟨k+1,q,r++ [p],by omega,by omega,by go_num,by first|rfl|exact congrArg _ lA|exact congrArg _ Om,Vr,by simp [HR.ae],mM,HA,fX,cH⟩;simp [RowKit.intOf];omega):=h
def m17(h:aq:=by
 clear hu;go_enter func74,ntmps74;go_wp2_with fail;rw[UK.1,UK.2.1,UK.2.2];have hB:=jg w cV [.bool false,.slice none 0 0] w.heap.size rfl;refine(sX (dC (w.heap.size+1) 0) 3 3 [u%B9,u/B9%B9,u/B9/B9] _ rfl Om Om HL.1 (Sl.TR (w.alloc (Obj.cells #[.bool false,.slice none 0 0] cV)) 209 #[.int .u64 ((u%B9:Nat):Int),.int .u64 ((u/B9%B9:Nat):Int),.int .u64 ((u/B9/B9:Nat):Int)] _ Ou)).mono ?_;rintro e w' ⟨r,hr,rfl,hc,hv,hs,rfl⟩;have HV:=af (hv.trans HL.2);have HB:=af (hB.ext ((aB _).alloc (Obj.cells #[.int .u64 ((u%B9:Nat):Int),.int .u64 ((u/B9%B9:Nat):Int),.int .u64 ((u/B9/B9:Nat):Int)] 209)));have HX:ah (Ext w ((w.alloc (Obj.cells #[.bool false,.slice none 0 0] cV)).alloc (Obj.cells #[.int .u64 ((u%B9:Nat):Int),.int .u64 ((u/B9%B9:Nat):Int),.int .u64 ((u/B9/B9:Nat):Int)] 209))):=((aB w).alloc _).alloc _;have HN:=af (eA.mk' hc HV hr hs);clear hB hv hs hc;go_wp2_with fail
 refine(qX _ _ u _ HN HF).mono ?_;rintro e w2 ⟨v2,rfl,hv2,hx2⟩;obtain⟨b2,A2,n2,c2',rfl,nC⟩:=hv2.parts;have eo:=af (HB.ext hx2);have aZ:=af (HX.trans hx2);have k0:=eo.aF 0;have k1:=eo.aF 1;have k2:=eo.frozen 0;have k3:=eo.frozen 1;clear hv2 hx2;go_wp2;refine vX rfl rfl rfl eo.ae nC aZ Om (fun v W' h1 h2=>⟨v,rfl,?_,h2⟩);have:=Dz.ae;rw[hd] at this;rw[this] at h1;exact h1):=h
def m18(h:aq:=by simp only[eR,dS,dy,cY] at ho;subst ho;refine⟨rfl,rfl,fun w' hSw=> ?_⟩;have hs:=bO w' hSw;go_split_ands;go_simp):=h
def m19(h:aq:=by
 have jw:ah (ar w3 w.heap.size bk [.bool false,.slice none 0 0]):=(hg3.block w.heap.size jO.lt (fun h=>by have:=(HOW.lt _ h.symm).1;omega)).trans jO.ae;have cH:ah (Ext w w3):=ud bQ hg3 bQ.size (fun k hk=>by have:=(HOW.lt k hk).1;omega);have fX:ah (w3.ownsRow (w.heap.size+1+1) tI 1 (.slice A3 (r.length+1) c3) (r++ [x]).length (dF (r++ [x]))):=(by rw[ah,bC,EF];exact eD)
 obtain⟨k0,k1⟩:=gO.two;have f1:=gO.frozen 1;have mg:=af (gO.bu 1 (.slice A3 (r.length+1) c3));clear eD hg3 hb3;go_wp2;exact NR):=h
def m20(h:aq:=by obtain⟨ba,Aa,na,ca,bb,Ab,nb,cb,rfl,HA,HB⟩:=ha.parts;obtain⟨bc,Ac,nc,cc,bd,Ad,nd,cd,rfl,HC,HD⟩:=hb.parts;have FA:=af (fa.num Om);have FB:=af (fa.den Om);have FC:=af (fb.num Om);have FD:=af (fb.den Om);have F1:=af (Io fa.1 (by simpa using fb.2:((q.den:Int)).natAbs<_) Om);have F2:=af (Io fb.1 (by simpa using fa.2:((p.den:Int)).natAbs<_) Om);have F3:=af (Io (by simpa using fa.2:((p.den:Int)).natAbs<_) (by simpa using fb.2:((q.den:Int)).natAbs<_) Om);exact NQ):=h
def m21(h:aq:=by
 rintro e w1 ⟨rfl,h1,hb1⟩;obtain⟨hB,v,F7,hown,hne⟩:=h1;have c0:w1.cell? (aC b 0)=some (aI b 0):=by rw[AC F7];rfl
 have c1:w1.cell? (aC b 1)=some v:=by rw[AC F7];rfl
 go_wp2_with (at_builtin;refine Lib.wpList_append_own_string _ rfl _ _ 156 9 rfl B t8 i0 underlying156 underlying9 hi hz0 hz1 hz2 _ _ _ rfl hown s rfl ?c3 ?c4 ?c5 ?_)
 case c3=>unfold maxLen;omega
 case c4=>omega
 case c5=>have:=hb1.size;omega
 intro v' w2 hown' hgrow _;have hlt:b<w1.heap.size:=by
  rcases cA b w1.heap.size with h'|h'
  ·exact h'
  ·simp [x6 h'] at F7
 have hb2:w2.heap[b]? =some (.cells #[aI b 0,v] tB (0,0)):=(by rw[hgrow.block b hlt (fun e=>hne e.symm)];exact F7);have d0:w2.cell? (aC b 0)=some (aI b 0):=by rw[AC hb2];rfl
 have d1:w2.cell? (aC b 1)=some v:=by rw[AC hb2];rfl
 have f1:=Lib.frozen_of_heap hb2 1;obtain⟨ao,n',cap,rfl⟩:∃ao n' cap,v'= .slice ao n' cap:=by
  rcases hown'.2 with⟨hv,_⟩|⟨g,cap,cur,hv,_⟩
  ·exact⟨_,_,_,hv⟩
  ·exact⟨_,_,_,hv⟩
 go_wp2;go_ret2;refine⟨rfl,?_,?_⟩
 ·exact Lib.BuilderAt.put hB hb2 (bs':=bs++Lib.strCells s) (by simpa [Lib.strCells_length] using hown') Od
 ·exact(hb1.grown hgrow (by have:=hb1.size;omega) (fun k hk=>(hown.lt k hk).1)).setCell hB _):=h
def m22(h:aq:=by
 obtain⟨gl,ol,hA,jv⟩:=qb dA dR HX.k2;subst hA;obtain⟨hr,y,hy,hF,hwy⟩:=UD hl[k] (a_ dR);have xK:=af (HG k);have gh:=af (SR.aaZ (R:=D.R) (f:=wh) dR (D.g v t));have Ob:hl[k]<D.T.length:=by rw[OT];exact hr
 obtain⟨gt,ot,A1,c1,hAt,FV,Gz,Jn⟩:=iP.get xA Ob;subst hAt;have J7:=af (aN.wb _ (lN.2 hr));have NZ:=aN.tl _ (a_ Ob);have Gu:=af (nD _ _ (aX hr));have Pj:=af (NB _ _ _ (aX hr) (aX Ob));have pP:=af (aX hr);rw[sY hr] at hF;have hTX:bY D.T hl[k]=D.T[hl[k]]:=by unfold bY;rw[aX Ob];rfl
 rw[hTX] at hF hy J7;have e0:=HX.st.sx.cell HX.st.c0;have e1:=(HX.st.ex.cell (p:=aC D.jb 4) dI).trans rM;have e2:=(HX.st.ex.cell (p:=aC gt (ot+hl[k])) FV).trans Jn;have e3:=jv;obtain⟨-,hr1,hr2⟩:=bD Gz;clear jv Jn hTX;generalize D.T[hl[k]]=rows at*;generalize D.x.ay[hl[k]]=rl at*;generalize hl[k]=r at*;go_upto_region 7 with fail
 clear e0 e1 e2 e3;obtain⟨q,hq⟩:∃q:Rw->Bool,q=fun y=>dV (cQ (bE D.p v) v) (put cur v t) (b9 rl.2) y.1:=⟨_,rfl⟩;have HQ:ah (∀y,q y=dV (cQ (bE D.p v) v) (put cur v t) (b9 rl.2) y.1):=by rw[hq];exact fun _=>rfl
 rw[<-hq] at hF;have HF:=af hF;have WK:=af hwy;clear hq hF hwy;generalize D.R.mul (D.g v t) (D.R.prod (hl.take k) wh)=a0 at*;generalize wr=w4 at*;exact k22):=h
def m23(h:aq:=by
 intro us w3 hI hR _;have hP:ni w3 (us 0) x first:=hR 0 _ rfl
 obtain⟨nb,e1,BN,uM⟩:Cu x.ai W.heap.size (us 1) w3:=hR 1 _ rfl;obtain⟨sb,e2,BS,CY⟩:Ct x.ai W.heap.size (us 2) w3:=hR 2 _ rfl;obtain⟨kb,e3,BK,hkb⟩:Cv W.heap.size (us 3) w3:=hR 3 _ rfl;obtain⟨pc,pk,ph,pA,pm,pn,e0⟩:=hP.parts;rw[e0] at hP;have HP:=af hP;have HN:=af BN;have HSb:=af BS;have HMb:=af BK;simp only[eK,e0,e1,e2,e3,Act.put,d8,dP,d9];have aH:ah (I w3):=hI;have HI:=af (su w3 hI);have hsz:W.heap.size<=w3.heap.size:=HI.1.size;clear hI hR e0 e1 e2 e3 hP BN BS BK;refine ax 13 33 ?_;refine aO 14 ?_;intro K hK;go_simp;refine hK.ae _ _ (fun _=>jQ _ (HI.1.ext ((aB w3).alloc _)) (HI.2.ext ((aB w3).alloc _))) ?_;refine aT fun W4 dD BX=> ?_;have zU:ah (a8 [pb] W W4/\dl x pb W4):=⟨HI.1.ext dD,HI.2.ext dD⟩;have bB:ah (I W4):=jQ _ zU.1 zU.2;have HPf:=af (HP.keep (.je dD.ae) (.je dD.ae));have HNf:=af (HN.ext dD);have Kj:=af (HSb.ext dD);have HMf:=af (HMb.ext dD);have Js:=HN.lt;have hsl:=HSb.lt;have dR:=HMb.lt;have HC:=af ((gT (S:= [pb]) HX).trans zU.1);clear hK;have aH:=bB;refine ax 15 12 ?_;refine b_ Ok ?_;have hwW:w.heap.size<=W.heap.size:=HX.size;go_wp2_with fail
 exact k23):=h
def m24(h:aq:=by
 have HIU:=af (fun(t:aD) (ht:t∈D.rF v cur)=>aN.wk.Vf hv ht);have jv:(D.rF v cur).length<=60:=abz aN.wk.hK;have Dz:=af (fun i=>aN.wk.aqu hv HIU cur i);have PC:ah (∀t∈D.rF v cur,D.G (dT D.x.ai D.p D.homes v) (60^(nT D.x.ai D.p D.homes v - 1)) (D.bT v t cur)):=fun t ht=>aN.wk.adi hv (HIU t ht) cur;have l9:=af (fun i (hi:i<60)=>aN.wk.aqv hv a12 hi);have cC:ah (D.vT v cur=D.R.sum (D.rF v cur) fun t=>D.bT v t cur):=aN.wk.step hv cur;have PD:=af (fun(t:aD) (e:Nat->aD) (h:∀a,bE D.p v a=true->e a=cur a)=>aN.adM (t:=t) hv h);have Py:ah (∀e:Nat->aD,(∀a,bE D.p v a=true->e a=cur a)->D.rF v e=D.rF v cur):=fun e h=>QM h;have uO:dT D.x.ai D.p D.homes v<=40:=(by have h1:=(aN.wk.JZ hv).2;have h2:=aN.r6;omega)
 generalize dT D.x.ai.length D.p D.homes v=dg at*;generalize 60^(nT D.x.ai.length D.p D.homes v - 1)=pw at*;have UI:ah (gZ (bh D.x) (bY D.T) (bM D.x) D.fx (bE D.p v) cur v=D.rF v cur):=rfl;rw[UI.ae] at sA;generalize D.rF v cur=cb at*;go_wp2_with fail
 refine sA.mono ?_;rintro e9 w9 ⟨Ac,cc,tc,rfl,avv,avu,hcb,afW,za⟩;have uZ:=af (fE.rF aN afW za);exact k24):=h
def m25(h:aq:=by
 rw[mf.ae] at GV;refine jF 5 Ok ?_;intro o' ho K hK;simp only[eR,dS,dy,cY] at ho;subst ho;refine nh rfl ?_;refine ME _ _ cI rfl nb jE _ _ _ rfl (Sb GV (aK _)) ⟨g,0,none⟩ lf c3 (eG (ints lf)) rfl (by unfold eG;rw[bW,DN.ae,kG]) (ao_ xO) (fun u hu=>by obtain⟨a,_,rfl⟩:=dU.1 hu;rfl) (show(1+lf.length)*8<=140737488355328 by omega) (pd GV.lt) ?_;intro v7 w7 zn VW _;obtain⟨A7,c7,rfl,_,_,_⟩:=ej zn;have xH:=af (aoH zn);have j8:=af (mn gK (Sb GV (aK _)) VW Om);have PI:=af (gH KY (Sb GV (aK _)) VW Om);refine hK.ae _ _ (fun _=>PI.aF 0) ?_;clear hK zn VW;have aH:ah (w7.cell? ⟨w.heap.size,0,none⟩=some (.int .i64 first)):=PI.aF 0;refine ax 6 7 ?_;refine b_ Ok ?_;go_wp2_with fail
 go_meet;exact⟨_,_,fn::lf,by rw[cP,mS],xH,zO,Xj,j8⟩):=h
def m26(h:aq:=by
 have lB:∃d:Nat,d<10/\T[i].toNat=48+d:=(by have:=HDG T[i] Ou;unfold kN at this;exact⟨T[i].toNat - 48,by omega,by omega⟩);obtain⟨d,ar_,Dn⟩:=lB;have hi':i<(ByteArray.mk T.toArray).size:=hlt;have lB:(((ByteArray.mk T.toArray)[i]'hi').toNat:Int)=48+(d:Int):=by
  show(T[i].toNat:Int)=_
  omega
 have HST:ah (f_ 0 ((T.take (i+1)).drop k)=10*f_ 0 ((T.take i).drop k)+d):=(by rw[ah,fg hlt,List.drop_append_of_le_length avU,Rq,Dn];omega);have uM:f_ 0 ((T.take i).drop k)<1000000000:=(by have h1:=ai3 ((T.take i).drop k) 0 (fun c hc=>HDG c (oW (Ha hc)));have h2:10^((T.take i).drop k).length<=10^9:=fN Od (by rw[o8,cJ];omega);omega);generalize f_ 0 ((T.take i).drop k)=y at*;clear Dn;go_wp2;go_round;exact⟨i+1,by omega,by omega,by go_num,by rw[HST.ae];exact congrArg _ Om⟩;simp [RowKit.intOf];omega):=h
def m27(h:aq:=by
 have jw:ah (ar w3 w.heap.size bk [.bool false,.slice none 0 0]):=(hg3.block w.heap.size jO.lt (fun h=>by have:=(HOW.lt _ h.symm).1;omega)).trans jO.ae;have cH:ah (Ext w w3):=ud bQ hg3 bQ.size (fun k hk=>by have:=(HOW.lt k hk).1;omega);have fX:ah (w3.ownsRow (w.heap.size+1+1) tI 1 (.slice A3 (r.length+1) c3) (r++ [0]).length (dF (r++ [0]))):=(by rw[ah,bC,EF];exact eD)
 obtain⟨k0,k1⟩:=gO.two;have f1:=gO.frozen 1;have mg:=af (gO.bu 1 (.slice A3 (r.length+1) c3));clear eD hg3 hb3;go_wp2;go_roundw
 ·refine⟨y,r++ [0],A3,c3,?_,by omega,HST,by have:=HST.2.2.2.1;exact this,?_,?_,jw.far (p:=aC (w.heap.size+1) 1) (tC _) _,cH.setCell (p:=aC (w.heap.size+1) 1) (lK _) _⟩
  ·first|rfl|exact congrArg _ Om
  ·rw[bC] at*;exact SF fX awd _
  ·rw[bC] at*;exact mg
 simp [RowKit.intOf];omega):=h
def m28(h:aq:=by
 obtain⟨k,rfl⟩:∃k,m=k+1:=⟨m - 1,by omega⟩;have dR:k<l.length:=awQ;have oJ:ah (Ext w wr):=qV HX (bQ.mono (lK _));have hsz:w.heap.size+1<=wr.heap.size:=awz;have oK:=af hsz;clear hsz;obtain⟨g,o,rfl,_,hcell⟩:=(HS.ext oJ).at_ (ko dR);have jJ:l[k]<B9:=HC.1.getElem dR;have Kg:=af (aiA dR);rw[l_.ae] at Kg;generalize l[k]=x at*;have afM:x<18446744073709551616:=by unfold B9 at jJ;omega
 have hnd:=y_ jJ;go_wp2_with fail;refine(adg x afM wr (HT.ext oJ)).mono ?_;rintro e w2 ⟨rfl,hx2⟩;have aZ:ah (Below (w.heap.size+1) W w2):=bQ.trans (hx2.mono oK);have eo:=af (adl oT hx2);have wH:w.heap.size+1<=w2.heap.size:=a7 oK hx2.size;have NA:=af wH;have aso:aA w2 w.heap.size 1 (aG g o n c):=(aZ.cell (p:=aC w.heap.size 1) avV).trans (BX.aF 1);have hlen:(ByteArray.mk (decDigits x).toArray).size=nDigits x:=by rw[<-decDigits_length];simp [ByteArray.size]
 have HL9:=af hnd.2;have hn9:=hnd.1;clear hnd hx2 l6 wH hcell afM jJ;exact k28):=h
def m29(h:aq:=by
 obtain⟨W9,Dl,eE,kX⟩:=j7.Ck aN hv false;rw[RS,Sd uy] at eE;have hcs:=(j7.st.sc.cell (pX (on:=cQ (bE D.p v) v) hv));have uN:=j7.st.sc.frozen v;have hst:=j7.st.st;have iY:=af (tS.only kX (.inl Ou));have X4:=af (uX.far kX Om (j7.Tr kX));have pR:=af (Yj.only kX Om);have sF:ah (∀a,bE D.p v a=true->cu a=cur a):=fun a ha=>by rw[HA.ae a (by unfold cQ;rw[ha,QA])];unfold put;rw[if_neg fun e=>by rw[e,uy] at ha;cases ha]
 clear j7 uX tS kX HA Yj;obtain⟨o0,O0,o1,o2,p0,P0,p1,p2,BO,VO⟩:=X4.parts;obtain⟨q0,q1,q2,q3⟩:=BO.four;obtain⟨f0,f1,f2,f3⟩:=pR.eX;obtain⟨j0,j1,j2,j3⟩:=pR.four;go_wp2_with fail;exact sW rfl rfl rfl pR.ae VO (fun u W' h1 h2=>⟨u,cu,rfl,by rw[hF];exact h1,eE.past aN h2 pR Od Om Om Om Om Om,sF,iY.only h2 (.inr (aK _))⟩)):=h
def m30(h:aq:=by
 have uy:=ok.self hv;have a12:D.x.ai.length<=12:=ok.a12;have aN:=af ok;have HB:=af hB;have hia:=ok.ring.ia;have HST:=af h;have hvN:v<D.x.ai.length:=hv;obtain⟨_,kb',_,_,_,_,k2,_,_,_,DM,_,_⟩:=ok.pl;obtain⟨Ak,dk,nv,Pt,_⟩:=MP DM (ok.ks v hv);have DJ:ah (∀a∈D.key v,(0:UInt8)∉cur a/\cur a∈D.U):=fun a ha=>by have h1:=uP a (ok.ka v hv a ha).1;exact⟨(ok.u0 _ h1).1,h1⟩
 have GF:ah (∀a∈D.key v,a<D.x.ai/\(cur a).length<=1000):=fun a ha=>⟨(ok.ka v hv a ha).2,(ok.u0 _ (uP a (ok.ka v hv a ha).1)).2⟩;have dR:=ok.kl v hv;have vg:ah (∀k,(UInt8.ofNat v::jW (((D.key v).take k).map cur)).length<=5006):=fun k=>by
  have h1:=acl (l:=((D.key v).take k).map cur) fun t ht=>by obtain⟨a,ha,rfl⟩:=dU.1 ht;exact(GF a (oW ha)).2
  rw[bW,cJ] at h1;rw[cP];omega
 have Xq:ah (UInt8.ofNat v::jW (((D.key v).take (D.key v)).map cur)=mv v (D.key v) cur):=by rw[ah,fj];rfl
 have zi:IntKind.u8.wrap (v:Int)=(v:Int):=by rw[IntKind.wrap_u8];omega
 have wI:=(bD Pt).2;have GI:=af uP;exact k30):=h
def m31(h:aq:=by
 obtain⟨gl,ol,hA,jv⟩:=qb Pt zt (HST.fB aN bQ).k2;subst hA;have bB:=af (HST.fB aN bQ);obtain⟨hka,nv⟩:=GF _ (a_ zt);have e3:=jv;have e4:=bB.st.nw;have e5:=bB.st.nc.cell (Mb (cur:=cur) hka);have HNS:ah (UInt8.ofNat v::jW ((kl.take (k+1)).map cur)=(UInt8.ofNat v::jW ((kl.take k).map cur))++(cur kl[k]++ [0])):=(by rw[ah,fg zt,kD,Ll,ak8,sO])
 have Js:=vg k;generalize UInt8.ofNat v::jW ((kl.take k).map cur)=nm at*;generalize kl[k]=a at*;generalize cur a=t at*;have asi:∀w,(Op.stringOp .add ⟨t.toArray⟩ ⟨#[0]⟩).run prog w= .ok (aL (t++ [0])) w:=fun w=>Iy t [0] w (by rw[iE];omega);have hsz:w.heap.size<=wr.heap.size:=bQ.size;have CW:=af (alI w.heap.size w.heap.size (byteCells nm) ⟨(t++ [0]).toArray⟩ wr oT (by rw[byteCells_length];simp [ByteArray.size];omega) hsz);have as_:ah (byteCells (UInt8.ofNat v::jW ((kl.take (k+1)).map cur))=byteCells nm++strCells ⟨(t++ [0]).toArray⟩):=by rw[ah,HNS.ae,byteCells_append];rfl
 exact k31):=h
def m32(h:aq:=by
 have c10:=aZ.st.sx.cell ok.cl;have XD:=af fun(h:Nat) (hh:h∈D.homes v)=>ok.wk.home hv ht hh;obtain⟨cb,_,hb,_,_,k1,_,k3,_,HLC,_,HLH,_⟩:=ok.pl;obtain⟨Ah,dh,hhc,dA,_⟩:=MP HLH (ok.hs v hv);obtain⟨Ac,dc,hcc,HIC,_⟩:=MP HLC (ok.ch v hv);have agl:=af (alR (v:=v) (P:=fun z=>z∈D.U) Vs uP);have GL:ah (D.bT v t cur=D.R.mul (D.R.mul (D.g v t) (D.R.prod (D.homes v) fun h=>hW D.R D.x D.T D.wt h (put cur v t))) (D.R.prod (kids D.dr D.p (some v)) fun c=>D.vT c (put cur v t))):=rfl;have HG:=af (ok.wk.adJ hv Vs (put cur v t));have zV:=af (ok.wk.ap5 hv Vs (put cur v t) ok.a12 ok.r6);have Kz:=af (fun(c:Nat) (hc:c∈kids D.dr D.p (some v))=>gU.1 hc);have Db:(D.homes v).length<=18:=(by have h1:=(ok.wk.IQ (v:=v) 0).1;have h2:=(ok.wk.JZ hv).2;have h3:=ok.r6;have h4:=ok.a12;have:D.dr=D.x.ai.length:=rfl;omega)
 obtain⟨At,ct,rM,xA⟩:=h.st.kU.tb;have dI:=h.st.kU.jl;obtain⟨-,ht2,ht3⟩:=bD xA;have OT:=h.st.kU.ok.len;have nD:=af h.st.kU.ok.ra;have NB:=af h.st.kU.ok.rl;have hlc:=(bD dA).2;have hlk:=(bD HIC).2;exact k32):=h
def m33(h:aq:=by
 rcases P7 a[k] b[k] with h|h|h
 ·have HV:ah (d7 (val a) (val b)= -1):=ET (Zk CA.1 HL k hk h HD);go_wp2;go_quiet (fail);go_wp2;rw[HV.ae];go_ret;exact⟨rfl,IR _ _ _⟩
 ·have HE:=af h;have h1:¬a[k]<b[k]:=Om;have h2:¬b[k]<a[k]:=Om;clear h;go_wp2;go_quiet (fail);go_wp2;go_quiet (fail);go_wp2;go_roundw
  ·refine⟨(k:Int) - 1,by go_num,by omega,by omega,?_,_,rfl⟩;have e1:((k:Int) - 1+1).toNat=k:=Om;have e2:((k:Int)+1).toNat=k+1:=Om;have:=HD.ae;rw[e2] at this;rw[e1,jR hk,jR zv,this,HE.ae]
  simp [intOf]
 ·have HV:ah (d7 (val a) (val b)=1):=MU (Zk CB.1 HL.symm k zv h HD.symm);have h1:¬a[k]<b[k]:=Om;go_wp2;go_quiet (fail);go_wp2;go_quiet (fail);go_wp2;rw[HV.ae];go_ret;exact⟨rfl,Ty _ _ _ _⟩):=h
def m34(h:aq:=by have bP:ah (Ext W2 (W2.drewN nq).drew):=((aB W2).drewN nq).drew;generalize hW3:W2.drewN nq=W3 at*;clear hW3;have fX:=af (dY.ext kH bP);have qL:=af (ke.ext bP);have cH:=af (aZ.trans bP);have Ki:=af (fu mI bP);have jw:=af (vO iD bP);have jy:ah (Ch (eI W3.drew) xs o):=EW (fun c x hc=>kH _ _ _ _ (fun _ _=>Hl bP) hc) gD;have bO:ah (∀w',Ext W3.drew w'->aA w' bx 0 (.slice Bi xv di)/\aA w' bx 1 (av xw)):=fun w' hx=>(qL.ext hx).two;have aH:ah (Ext W3.drew W3.drew):=aB _;have hzw:w.heap.size<=W3.drew.heap.size:=cH.size;refine cD (S:=fun w'=>Ext W3.drew w') (T:=fun j=>decide (9<=j)) Ok ?_;generalize W3.drew=wd at*;have nv:k<=co:=Om;refine ax 0 56 ?_;refine ax 1 57 ?_;refine ax 2 58 ?_;refine ax 3 59 ?_;refine ax 5 61 ?_;refine ax 6 62 ?_;exact k34):=h
def m35(h:aq:=by obtain⟨j,hj,hjs⟩:=Option.map_eq_some_iff.1 Tryz.AA.sizeBuilder;go_enter func212,ntmps212;go_wp2;rw[Lib.run_to_unsafe w ⟨b,0,none⟩ underlying237 underlying311 hj (by rw[hjs];decide) Vt (Nat.zero_lt_succ 1)];simp only[Result.andThen];rw[Y9];go_wp2;rw[run_callFunc_extern func257 Ok Ok Ok Ok];rw[Lib.run_noEscape];simp only[Result.andThen];rw[Y9];go_wp2;rw[Lib.run_from_unsafe w ⟨b,0,none⟩ underlying311 underlying237 hj Vt Tryz.AA.liesBuilder];simp only[Result.andThen];rw[Y9];go_wp2;go_end0;exact⟨rfl,rfl⟩):=h
def m36(h:aq:=by
 obtain⟨W9,Dl,eE,kX⟩:=j7.Ck aN hv false;rw[RS,Sd uy] at eE;have hcs:=(j7.st.sc.cell (pX (on:=cQ (bE D.p v) v) hv));have uN:=j7.st.sc.frozen v;have hst:=j7.st.st;have xz:=af (aN.ring.vk uX (j7.Tr kX));have iY:=af (tS.only kX (.inl Ou));have sF:ah (∀a,bE D.p v a=true->cu a=cur a):=fun a ha=>by rw[HA.ae a (by unfold cQ;rw[ha,QA])];unfold put;rw[if_neg fun e=>by rw[e,uy] at ha;cases ha]
 go_wp2_with fail
 exact bodyPost_ret (v:=u) (by simp [results,results192,go_sem]) rfl (by first|exact⟨u,rfl,xz,cu,eE,sF,iY⟩|exact⟨u,cu,rfl,xz,eE,sF,iY⟩)):=h
def NN(h:aq:=by
 have xP:ah (∀k,k<j+1->P k=false):=fun k hk=>by
  rcases cA k j with h|h
  ·exact HB k h
  ·rw[show k=j by omega];exact hp
 go_wp2;go_roundw;exact⟨j+1,by omega,by go_num,mL,xP⟩;simp [RowKit.intOf];omega):=h
def m38(h:aq:=by
 go_enter func159,ntmps159;go_upto_region 1 with fail
 refine fR fun W HX HB HR=> ?_;obtain⟨k0,k1⟩:=HB.two;have f0:=HB.frozen 0;have eo:=af (HB.bu 0 (.bool false));have iD:=af (HR.far (p:=aC w.heap.size 0) (fP (tC _)) (.bool false));have aZ:=af (HX.setCell (p:=aC w.heap.size 0) (aK _) (.bool false));obtain⟨b0,b1⟩:=eo.two;obtain⟨r0,r1⟩:=iD.two;have Wv:=iD.frozen 0;have Wu:=iD.frozen 1;have HV:=af (HN false _ HD rfl _ (HS.ext aZ));go_wp2;exact ul rfl rfl rfl iD.ae HV aZ (lK _) (fun v W' h1 h2=>⟨v,rfl,h1,h2⟩)):=h
def m39(h:aq:=by
 have hrp:(9:Int) - (nDigits x:Int)=((9 - nDigits x:Nat):Int):=Om;go_wp2_with fail;refine(Tryz.strings_Repeat ⟨#[48]⟩ (9 - nDigits x) w2 Om (by simp [ByteArray.size];omega)).mono ?_;rintro e w3 ⟨rfl,hx3⟩;have cH:ah (Below (w.heap.size+1) W w3):=aZ.trans (hx3.mono NA);have gO:=af (adl eo hx3);have agI:ah (w.heap.size+1<=w3.heap.size):=a7 NA hx3.size;have ju:(ByteArray.mk (repeatL [48] (9 - nDigits x)).toArray).size=9 - nDigits x:=by rw[Ql];simp [ByteArray.size]
 clear hx3;go_wp2_with fail;refine(Ed (w.heap.size+1) (w.heap.size+1) _ ⟨(repeatL [48] (9 - nDigits x)).toArray⟩ w3 gO (by rw[ju];have:=GM.ae;omega) agI).mono ?_;rintro e w4 ⟨rfl,hb4,g_⟩;have dD:=af (cH.trans g_);have agH:ah (w.heap.size+1<=w4.heap.size):=a7 agI g_.size;exact k39):=h
def Fv(h:aq:=by simp only[eR,dS,dy,cY] at ho;subst ho;simp only[eK];go_simp;have j9:=HK.ae;simp only[eK,Act.put,d8,dP,d9] at j9;exact Fw):=h
def m41(h:aq:=by
 obtain⟨hst,ha2⟩:=ai0 HO (YT h0) HZ;have HST:=af hst;clear hst;have hlt:a/B9<a:=Nat.div_lt_self (YT h0) Od;have hmB:a%B9<1000000000:=eF _ Od;have jK:(a:Int)%1000000000=((a%B9:Nat):Int):=avN;have nu:(a:Int)/1000000000=((a/B9:Nat):Int):=avN;have FO:(-(a:Int)).tmod 1000000000= -((a%B9:Nat):Int):=by rw[Int.neg_tmod,Int.tmod_eq_emod_of_nonneg Om,jK]
 have hm4:(-(a:Int)).tdiv 1000000000= -((a/B9:Nat):Int):=by rw[Int.neg_tdiv,Int.tdiv_eq_ediv_of_nonneg Om,nu]
 have avE:((a:Int) !=0)=true:=by simpa using h0
 have auy:((-(a:Int)) !=0)=true:=by simpa using h0
 generalize a%B9=x at*;generalize a/B9=y at*;exact k41):=h
def m42(h:aq:=by
 clear b0 b1;obtain⟨wo,mD⟩:∃wo:World,wo=w4:=⟨_,rfl⟩;have Pf:ah (Ext wo w4):=by rw[mD];exact aB _
 have GW:ah (ar wo (w.heap.size+1) bk [.bool CU,aG gY oY (n0+1) cb]):=by rw[mD];exact GW
 have Ku:ah (pG wo (w.heap.size+1+1+1+1+1) (aG gR oR n2 c1) R1):=by rw[mD];exact Ku
 have Gx:ah (ik wo (aG gR oR n2 c1) R1):=by rw[mD];exact Gx
 have Cw:ah (ar wo (w.heap.size+1+1+1+1) tI (dF (List.replicate (k+1) 0++q))):=by rw[mD];exact Cw
 have I':ah (Below (w.heap.size+1+1+1+1) W wo):=by rw[mD];exact I'
 have Fl:ah (ik wo (aG gY oY (n0+1) cb) Y):=by rw[mD];exact Fl
 have arL:w.heap.size+1+1+1+1+1<=wo.heap.size:=by have:=Cw.lt;omega
 clear mD;exact k42):=h
def m43(h:aq:=by intro K hK;go_simp;refine CM.mono ?_;rintro e6 w6 ⟨u6,rfl,qw,gI⟩;obtain⟨r0,R0,r1,r2,s0,S0,s1,s2,rfl,_,_⟩:=qw.parts;have dG:=af (dX.fB aN gI);have qJ:=af (oP.ext gI);have tY:=af (vw.ext gI);have pS:=af (vt.ext gI);have aH:ah (ar w6 D.xb D.tX D.cs/\ar w6 ob dp [.bool o0,.slice O0 o1 o2,.bool p0,.slice P0 p1 p2]):=⟨dG.st.sx,tY⟩;refine hK.ae _ _ (fun _=>aH.ae) ?_;obtain⟨k0,k1,k2,k3⟩:=tY.four;obtain⟨f0,f1,f2,f3⟩:=tY.eX;obtain⟨W',hW',vp,_,_,jP⟩:=dK.put tY qw dG.st.ex Om;have HW:=af hW';have uW:=af (dG.past aN jP tY Od Om Om Om Om Om);exact k43):=h
def m44(h:aq:=by
 obtain⟨gl,ol,hA,jv⟩:=qb dA dR HX.k2;subst hA;obtain⟨s1,j1,s2,j2,m1,m2,m3,m4,m5⟩:=HGM k dR;have tP:=af m4;have se:=af m5;have gh:ah (D.R.prod (rl.take (k+1)) (fun c=>D.vT c fun _=> [])=D.R.mul (D.R.prod (rl.take k) fun c=>D.vT c fun _=> []) (D.vT rl[k] fun _=> [])):=by rw[ah,fg dR,SR.aa0]
 obtain⟨kT,iB⟩:=Kz _ (a_ dR);have V_:bE D.p rl[k]=fun _=>false:=funext fun a=>Ik iB;have xR:=af V_;have Gn:=af (HV _ kT);have zK:ah (∀cu,D.vT rl[k] cu=D.vT rl[k] fun _=> []):=fun cu=>aN.kv _ kT _ _ fun a ha=>by have h1:=(aN.ka _ kT a ha).1;rw[V_] at h1;cases h1
 have e3:=jv;exact k44):=h
def m45(h:aq:=by
 go_roundw
 ·refine⟨T.take k,m',r++ [x],A3,c3,rfl,Pj,by rw[cJ,bC,iE];have:=HK.ae;omega,by rw[bC,iE];omega,?_,?_,jw.far (p:=aC (w.heap.size+1) 1) (tC _) _,cH.setCell (p:=aC (w.heap.size+1) 1) (lK _) _⟩
  ·rw[bC] at*;exact SF fX awd _
  ·rw[bC] at*;exact mg
 simp [Tf,ByteArray.size];have:=HK.ae;omega):=h
def m46(h:aq:=by
 obtain⟨gr,og,Bk,dk,j5,hgr,lA,rP,rY⟩:=yS Gz dI;subst j5;have et:=(HX.st.ex.cell (p:=aC gr (og+j*2)) hgr).trans lA;have gz:=(HX.st.ex.cell (p:=aC gr (og+j*2+1)) hgr).trans rP;have xQ:=af (anM (q:=q) dI);have jP:=af (fun h=>ac2 HF dI h);have Dt:=af (J7 _ (a_ dI));have WY:=af (Pj _ (a_ dI));have Kq:=af (HQ rows[j]);clear lA rP;generalize rows[j]=yy at*;obtain⟨yv,yw⟩:=yy;simp only at et gz rY Dt WY Kq;go_upto_region 9 with fail
 refine aT fun W6 dG BY=> ?_;have gK:=af (HX.fB aN dG);have KN:=af (HC.ext dG);exact k46):=h
def m47(h:aq:=by
 go_loop [4] (fun v4=>∃k:Nat,k<=S.size/\v4= .int .i64 k) (fun v4=>S.size - (RowKit.intOf v4).toNat)
 exact⟨0,aV _,rfl⟩;obtain⟨k,hk,rfl⟩:=hrel;by_cases hlt:k<S.size
 ·have uO:=agW k hlt;have hx1:¬(S[k].toNat:Int)<48:=Om;have hx2:¬(57:Int)<S[k].toNat:=Om;clear uO;go_wp2;go_round;exact⟨k+1,by omega,by go_num⟩;simp [RowKit.intOf];omega
 ·go_wp2;go_ret;exact⟨rfl,rfl⟩):=h
def m48(h:aq:=by have avn:=dY.frozenAt (k+1);have Db:=CA.1.getD (k+1);unfold B9 at Db;have fX:=af (dY.stored (k+1) (.int .i64 ((limb a (k+1):Int) - 1))).1;rw[ahb hr1 kS] at fX;generalize limb a (k+1)=y1 at*;have kY:=af j5;have HVT:=af Dm;clear hA j5 wX OU;go_wp2;go_roundw;exact⟨k+1,1,r++ [T],by omega,by go_num,aK _,by omega,hr1,HD.snoc Ga,kY,fX,(bQ.setCell (p:=aC g k) hgb _).setCell (p:=aC g (k+1)) hgb _⟩;simp [RowKit.intOf];omega):=h
def m49(h:aq:=by
 go_wp2_with (at_builtin;refine gQ rfl _ _ rr rfl w5.heap.size str_slice _ _ _ rfl kW.ae _ 1 1 rfl rfl rfl cM hz9 ?_)
 intro v' Fm Co tq _;obtain⟨La,c10,rfl,_,_,_⟩:=ej Co;have xi:=af (jc (R:=jM) jS Oe kW vo rfl Co tq);have WC:=af (mn Yc kW tq (aK _));clear Co tq;go_wp2;go_roundw;exact⟨j+1,by omega,by go_num,by rw[NC.ae];exact xi,WC⟩;simp [RowKit.intOf];omega):=h
def m50(h:aq:=by clear hf iN VD qx j4 JH h1 VH Jt;go_enter func38,ntmps38;go_wp2_with fail;refine aT (P:=fun W=>Calls _ _ _ W _) fun W HX HB=> ?_;refine(GN _ W (H.ext HX)).mono ?_;rintro e w1 ⟨rfl,hx1⟩;obtain⟨k0,k1,k2,k3⟩:=(HB.ext hx1).four;go_wp2_with fail;refine(GD _ w1 (H'.ext (HX.trans hx1))).mono ?_;rintro e w2 ⟨rfl,hx2⟩;go_wp2;go_ret2;exact⟨rfl,HX.trans (hx1.trans hx2)⟩):=h
def m51(h:aq:=by
 have h2:=Q7 hc 4 j h1 (fun o' Oq e he hb=>by rw[ho] at Oq;injection Oq with Oq;subst Oq;exact hall e he hb);rcases cA i listed.size with hl|hl
 ·simp [hl] at hu h2;rw[hu] at h2;cases h2
 ·simp [x6 hl] at h2):=h
def m52(h:aq:=by
 go_roundw
 ·refine⟨y,r++ [x],A3,c3,?_,by omega,HST,by have:=HST.2.2.2.1;exact this,?_,?_,jw.far (p:=aC (w.heap.size+1) 1) (tC _) _,cH.setCell (p:=aC (w.heap.size+1) 1) (lK _) _⟩
  ·first|rfl|exact congrArg _ Om
  ·rw[bC] at*;exact SF fX awd _
  ·rw[bC] at*;exact mg
 simp [RowKit.intOf];omega):=h
def m53(h:aq:=by
 have h:=SA (g:=fun v x=>if cL fx v x=true then lift v x else 0) (W:=jI at_ tab) (a:=a) (B:=B) (M:=M) hK (fun t=>by
  show dt B M (if cL fx a t=true then lift a t else 0)
  split
  ·exact ha t
  ·exact EO _ _) (fun v t hv=>by
  show dt 1 1 (if cL fx v t=true then lift v t else 0)
  split
  ·exact hb v t hv
  ·exact EO _ _) (fun h e=>by
  show dt 1 c (fC dQ at_ tab (fun w=>(w:Rat)) h e)
  unfold fC;split
  ·rename_i y hy;refine⟨y.2,?_,hW h y (L6 hy).1⟩;rw[show((1:Nat):Int)=1 from rfl,show((1:Int):Rat)=1 from rfl,Et]
  ·exact EO _ _) f env
 exact k53):=h
def m54(h:aq:=by have cH:=af (HX.trans (hx1.trans (hx2.trans hx3)));have jw:=af (HR.ext (hx1.trans (hx2.trans hx3)));have HF:ah (bX w3 (.agg #[.bool b2,.slice A2 n2 c2,.bool b3,.slice A3 n3 c3]) q):= .mk' (nC.ext hx3) (by rw[H1.ae];exact J_);obtain⟨k0,k1,k2,k3⟩:=jw.four;obtain⟨f0,f1,f2,f3⟩:=jw.eX;clear hx1 hx2 hx3 hv2 hv3;go_wp2;exact yH rfl rfl rfl jw.ae HF cH (aK _) (fun v W' h1 h2=>⟨v,rfl,h1,h2⟩)):=h
def Va(h:aq:=by go_enter func261,ntmps261;go_wp2_with fail;refine H1.mono ?_;rintro e w1 ⟨rfl,rfl⟩;go_wp2_with fail;refine H2.mono ?_;rintro e w1 ⟨rfl,rfl⟩;go_wp2;go_ret;exact⟨by rw[HC.ae];rfl,rfl⟩):=h
def m56(h:aq:=by
 have Jm:t/B9<1000000000:=avN;have Vq:t%B9<1000000000:=eF _ Od;have mM:=af (HD.snoc (x:=t%B9) (eF _ Od));generalize t%B9=p at*;generalize t/B9=q at*;go_wp2_with (at_builtin;refine gQ rfl _ _ pI rfl w.heap.size jE _ _ _ rfl HO.ae #[av (p:Int)] 1 1 rfl rfl rfl Om HX.size ?_)
 intro v' w3 eD hg3 _;have cH:ah (Ext w w3):=ud HX hg3 HX.size (fun k hk=>(HO.lt k hk).1);have fX:ah (w3.ownsRow w.heap.size tI 1 v' (k+1) (dF (r++ [p]))):=by rw[ah,EF];exact eD
 clear eD hg3 et;go_wp2;exact k56):=h
def m57(h:aq:=by
 go_upto_region 1 with fail
 refine aT fun W HX BR=> ?_;have hbr:=BR.lt;have j0:=(HJ.ext HX).aF 0;go_upto_region 2 with fail
 clear j0;have HMW:=af (HM.ext HX);have HBW:=af (GG.ext HX);have BRd:=af BR.drew;obtain⟨I,Gc⟩:∃I:World->Prop,I=fun w'=>a8 [pb] W w'/\dl x pb w':=⟨_,rfl⟩;have su:ah (∀w',I w'->a8 [pb] W w'/\dl x pb w'):=awI;have jQ:ah (∀w',a8 [pb] W w'->dl x pb w'->I w'):=by rw[ah,Gc];exact fun _ h1 h2=>⟨h1,h2⟩
 exact k57):=h
def m58(h:aq:=by
 go_wp2_with fail
 refine C.mono ?_;rintro e w2 ⟨u,rfl,hu,hx⟩;obtain⟨a0,A0,a1,a2,b0,B0,b1,b2,rfl, -, -⟩:=hu.parts;have HU:=af hu;have aZ:=af (HX.trans hx);have xX:=af (BT.ext hx);obtain⟨k0,k1,k2,k3⟩:=xX.four;obtain⟨f0,f1,f2,f3⟩:=xX.eX;go_wp2_with fail
 refine sW rfl rfl rfl xX.ae HU fun v W' g1 g2=>⟨v,rfl,?_,aZ.only g2 Om⟩;simpa using g1):=h
def m59(h:aq:=by rw[nG.ae] at CP;have hso:=nB.size;refine CP.mono ?_;rintro e6 w7 ⟨q,rfl,hq,Vx,gI⟩;obtain⟨dd,hdd⟩:=adC aN nG gN lD;have HQ:=af hq;have kC:=af hdd;clear hq hdd;generalize(iL (iy x.ay) (g9 m) m fun _=>none)=pp at*;have hqW:W.heap.size<=q:=Om;have xj:=af (nB.trans (ep gI));have oL:=af (oM.ext gI);refine hK.ae _ _ (fun _=>jQ _ xj oL) ?_;clear hK;have aH:=af (jQ _ xj oL);refine ax 7 7 ?_;refine ax 8 15 ?_;refine ax 9 16 ?_;have HB:=af (HB.ext gI);exact k59):=h
def Fs(h:aq:=by go_roundw;exact⟨i+1,by omega,by go_num,rW⟩;simp [RowKit.intOf];omega):=h
def m61(h:aq:=by
 go_wp2_with fail
 refine(V1 w).mono ?_;rintro e w1 ⟨rfl,hx1⟩;go_wp2_with fail;refine(V2 w1).mono ?_;rintro e w2 ⟨rfl,hx2⟩;go_wp2_with fail;refine(R1 w2).mono ?_;rintro e w3 ⟨v3,rfl,hv3,hx3⟩;obtain⟨b3,A3,n3,c3,b3',A3',n3',c3',rfl,_,_⟩:=hv3.parts;go_wp2_with fail;refine(R2 w3).mono ?_;rintro e w4 ⟨v4,rfl,hv4,g_⟩;obtain⟨b4,A4,n4,c4,b4',A4',n4',c4',rfl,_,_⟩:=hv4.parts;go_wp2_with fail;refine(OP _ _ w4 (hv3.ext g_) hv4).mono ?_;rintro e w5 ⟨v5,rfl,tD,fM⟩;obtain⟨b5,A5,n5,c5,b5',A5',n5',c5',rfl,_,_⟩:=tD.parts;go_wp2_with fail;exact k61):=h
def U_(h:aq:=by obtain⟨k0,k1,k2,k3⟩:=jw.four;obtain⟨f0,f1,f2,f3⟩:=jw.eX;clear hx1 hx2 hx3 hv2 hv3;go_wp2;exact Mh rfl rfl rfl jw.ae HF cH (aK _) (fun v W' h1 h2=>⟨v,rfl,h1,h2⟩)):=h
def U9(h:aq:=by
 go_wp2_with fail
 refine FC.mono ?_;rintro e w4 ⟨rfl,g_⟩;have dD:=af (Fk.trans g_);go_wp2_with fail
 go_roundw;exact⟨i+1,by omega,by go_num,dD⟩;simp [RowKit.intOf];omega):=h
def m64(h:aq:=by have hb:=nI w' h;first|exact⟨hb.aF 0,hb.aF 1,hb.aF 2,hb.aF 3,hb.aF 4⟩|exact⟨hb.aF 0,hb.aF 1,hb.aF 2,hb.aF 3,hb.aF 4,hb.aF 5,hb.aF 6,hb.aF 7,hb.aF 8,hb.aF 9,hb.aF 10⟩):=h
def m65(h:aq:=by
 obtain⟨d,r⟩:=hpl.TK;have w:=hpl.ap2 r hne hlt;have hu:∀b,(none:Option Nat)=some b->b<n:=fun b h=>by cases h
 have hk:n<=n+fQ d none:=Lt _ _;have Vn:∀v,v∈(d_ n q (fun v=>hl.filter fun t=>eJ d (at_ t) ((at_ t).headD 0)==v) n none).vars↔v<n:=fun v=>by rw[vG r n none v hu hk];exact⟨fun h=>h.1,fun h=>⟨h,dw.all r (d v) v h (aK _)⟩⟩
 have NX:=Hj (homes:=fun v=>hl.filter fun t=>eJ d (at_ t) ((at_ t).headD 0)==v) r n none hu hk;exact k65):=h
def m66(h:aq:=by
 obtain⟨pr,C8⟩:∃pr:Nat->Bool,pr=fun k=>(l[k]?.map Q).getD false:=⟨_,rfl⟩;have C9:∀k (hk:k<l.length),pr k=Q l[k]:=fun k hk=>by rw[C8];simp only[aX hk];rfl
 have F6:∀W k,ar W g bJ (l.map (fun v:aD=>Value.string ⟨v.toArray⟩)++rest)->(hk:k<l.length)->W.cell? ⟨g,k,none⟩=some ((fun v:aD=>Value.string ⟨v.toArray⟩) l[k]):=fun W k h hk=>h.cell (by rw[nM (by rw[bW];exact hk),dL,aX hk];rfl);exact k66):=h
def m67(h:aq:=by rintro e w2 ⟨v2,rfl,hv2,hx2⟩;rw[HE.2,HZ.ae] at hv2;obtain⟨b2,A2,n2,c2,rfl,nC⟩:=hv2.parts;have iD:=af (jO.ext hx2);have aZ:=af (bQ.trans hx2);obtain⟨r0,r1⟩:=iD.two;have Wv:=iD.frozen 0;have Wu:=iD.frozen 1;clear hv2 hx2;go_wp2;exact ul rfl rfl rfl iD.ae nC aZ (aK _) (fun v W' h1 h2=>⟨v,rfl,h1,h2⟩)):=h
def m68(h:aq:=by
 go_wp2_with fail
 refine(ajU w.heap.size w.heap.size [] (v:Int) W PE Ou hsz).mono ?_;rintro e1 w1 ⟨rfl,hb1,hx1⟩;have oT:ah (IsBuilder tB t8 w.heap.size w.heap.size (byteCells (UInt8.ofNat v::jW ((kl.take 0).map cur))) w1):=by rw[ah,kF];rw[show(UInt8.ofNat v::jW (([]:List Nat).map cur))= [UInt8.ofNat v] from rfl,ajI Om];exact .inr hb1
 have bQ:ah (Ext w w1):=qV HX hx1;have bB:=af (HST.fB aN bQ);have c2:=bB.st.sx.cell k2;have ck2:=nv _ bB.k1;exact k68):=h
def m69(h:aq:=by
 obtain rfl:i=T.length:=Om;have hxe:(T.take T).drop k=T.drop k:=by rw[dz (aK _)]
 rw[hxe];have NV:=HXB.ae;unfold B9 at NV;generalize f_ 0 (T.drop k)=x at*;clear hxe;have htk:(ByteArray.mk T.toArray).extract 0 k=⟨(T.take k).toArray⟩:=by rw[Bn,lJ]
 go_wp2_with (at_builtin;refine gQ rfl _ _ pI rfl (w.heap.size+1+1) jE _ _ _ rfl HOW.ae #[.int .i64 (x:Int)] 1 1 rfl rfl rfl Om hsz ?_)
 intro v' w3 eD hg3 hb3;obtain⟨A3,c3,rfl,hc3,_,_⟩:=ej eD;exact k69):=h
def m70(h:aq:=by obtain⟨gl,ol,Ws,jv⟩:=qb HIC dR HX.k2;subst Ws;obtain⟨⟨sz,jz,z1,z2,z3⟩,hM⟩:=zV k;obtain⟨s1,j1,s2,j2,m1,m2,m3,m4,m5⟩:=hM dR;have tP:=af m4;have se:=af m5;have gh:=af (SR.aaZ (R:=D.R) (f:=fun c=>D.vT c (put cur v t)) dR b0);have HST:=af (fun h=>SR.akv (R:=D.R) (f:=fun c=>D.vT c (put cur v t)) (l:=kl) (i:=k) (b:=b0) h);have Gn:=af (HV _ (a_ dR));obtain⟨kT,iB⟩:=Kz _ (a_ dR);have e3:=jv;exact k70):=h
def m71(h:aq:=by
 refine dt.fit h Od ?_ Od;have e:(bM x).length=x.ay.length:=by unfold bM;rw[iG]
 rw[e];have p1:61^x.ai.length<=61^5:=fN Od a5;have p2:100^x.ay.length<=100^3:=fN Od r3;refine Ay (vF (eT oI p1) p2) ?_;decide):=h
def m72(h:aq:=by have hz:iW (fun _=>false) 0= -1:=rfl;rw[hz] at CI;go_enter func189,ntmps189;go_wp2_with fail;refine CI.mono ?_;rintro e w' ⟨rfl,rfl⟩;go_wp2;exact bodyPost_ret (v:= .slice A 0 c) aww rfl ⟨rfl,rfl⟩):=h
def m73(h:aq:=by
 obtain⟨g,rest,Ws,rT,rU⟩:=qI (fun e=>by rw[e] at nv;exact absurd nv (Lv _));subst Ws;have OY:=rU.cy HC avL;have hcell:(cb.map encStr++rest)[k]? =some (aL cb[k]):=(by rw[nM (by rw[bW];exact nv),dL,aX nv];rfl)
 have e3:=OY.cell hcell;have hm:=a_ nv;have gh:=af (SR.EG (R:=D.R) (f:=fun t=>D.bT v t cur) nv);exact k73):=h
def m74(h:aq:=by refine ax 0 91 ?_;refine ax 1 92 ?_;refine ax 2 93 ?_;refine ax 3 94 ?_;refine ax 4 95 ?_;refine ax 5 96 ?_;refine ax 6 97 ?_;refine ax 7 98 ?_;refine ax 8 99 ?_;refine b_ Ok ?_;go_wp2;go_roundw;exact⟨j+1,by omega,by go_num,by rw[mM.ae],xL⟩;simp [RowKit.intOf];omega):=h
def m75(h:aq:=by generalize w7.drew=wd at*;have CW:=af (aN.ring.UO wd yw Dt.1 Dt.2);refine ax 0 66 ?_;refine ax 1 67 ?_;refine ax 2 68 ?_;refine ax 3 69 ?_;refine ax 4 70 ?_;refine ax 5 71 ?_;refine ax 6 72 ?_;refine ax 7 73 ?_;refine ax 8 74 ?_;refine ax 9 75 ?_;refine ax 10 76 ?_;refine ax 11 77 ?_;refine aO 12 ?_;intro K hK;go_simp;refine CW.mono ?_;rintro e8 w8 ⟨u8,rfl,ox,fV⟩;have zI:=af (eE.fB aN fV);have XV:=af (iY.ext fV);exact k75):=h
def m76(h:aq:=by
 by_cases h0:aW z.natAbs= []
 ·rw[qW.1 h0,nDigits_small Od];decide
 ·have h1:=Qp (cW z.natAbs) h0;rw[dm] at h1;have h2:=(y_ ((cW z.natAbs).1.getElem (k:=(aW z.natAbs).length - 1) (by have:=D6.2 h0;omega))).1;rw[<-YI h0] at h2;omega):=h
def m77(h:aq:=by
 obtain⟨g',rfl,h1,h2⟩:=h;have h3:=h1.lt;refine⟨⟨g',rfl,h1.alloc _,h2⟩,fun b hb he=> ?_,fun b hb he=> ?_⟩
 ·rw[hv] at he;have hb:some g'=some b:=hb;injection hb with hb;injection he with he;omega
 ·rw[hv] at hb;have he:some g'=some b:=he;injection hb with hb;injection he with he;omega):=h
def m78(h:aq:=by clear hz;go_enter func40,ntmps40;go_wp2_with fail;refine aT (P:=fun W=>Calls _ _ _ W _) fun W HX HB=> ?_;refine(HZ W (HV.ext HX)).mono ?_;rintro e w1 ⟨rfl,hx1⟩;rw[hd];go_wp2;go_ret;exact⟨mV HS.symm,HX.trans hx1⟩):=h
def U8(h:aq:=by
 go_upto_region 1 with fail
 refine aT fun W HX BX=> ?_;have Yg:=af (CH W HX);obtain⟨s0,s1,s2,s3⟩:=BX.four;go_wp2_with fail
 refine Yg.mono ?_;rintro e1 w1 ⟨rfl,hx1⟩;have kZ:=af (BX.ext hx1);have bQ:=af (HX.trans hx1);exact Ve):=h
def NL(h:aq:=by
 go_wp2_with fail
 go_roundw;exact⟨k+1,by omega,by go_num,kV⟩;simp [RowKit.intOf];omega):=h
def U7(h:aq:=by go_enter func178,ntmps178;go_wp2_with fail;refine CS.mono ?_;rintro e w1 ⟨rfl,rfl⟩;go_wp2;go_ret;exact⟨rfl,rfl⟩):=h
def U6(h:aq:=by
 go_wp2_with fail
 go_roundw;exact⟨j+1,m,o3,by omega,by go_num,by first|rfl|trivial,HB,HI,aZ,BX,HE⟩;simp [RowKit.intOf];omega):=h
def m83(h:aq:=by generalize wr.drew=wd at*;have CB2:=af (CB wd aZ);refine ax 0 63 ?_;refine ax 1 64 ?_;refine ax 2 65 ?_;refine ax 3 66 ?_;refine ax 4 67 ?_;refine ax 5 68 ?_;refine ax 6 69 ?_;refine ax 7 70 ?_;refine ax 8 71 ?_;refine aO 9 ?_;intro K hK;go_simp;refine CB2.mono ?_;rintro e5 w5 ⟨u5,O1,rfl,tD,fM,ha5,oG⟩;have dX:=af fM;have PF:ah (∀a,bE D.p v a=true->O1 a=cur a):=fun a ha=>(ha5 a ha).trans (HA a ha);exact k83):=h
def m84(h:aq:=by rintro e w3 ⟨v3,rfl,hv3,hx3⟩;go_wp2_with fail;refine(aam _ _ w3 hv3).mono ?_;rintro e w4 ⟨v4,rfl,hv4,g_⟩;obtain⟨r0,R0,r1,r2,s0,S0,s1,s2,rfl,jO,iD⟩:=hv4.parts;have jC:=af (D5.ext (hx3.trans g_));obtain⟨k0,k1,k2,k3⟩:=jC.four;obtain⟨f0,f1,f2,f3⟩:=jC.eX;go_wp2;refine yH rfl rfl rfl jC.ae (.mk' jO.ae iD.ae) (aZ.trans (hx3.trans g_)) Om (fun v W' h1 h2=>⟨v,rfl,?_,h2⟩);exact k84):=h
def m85(h:aq:=by
 have hk:∀u∈ [bJ],Kept u w w':=fun u hu=>by rw[bG.1 hu];exact pZ Jr h9 Od
 exact h v' w' ⟨xs++ys,by rw[bC];exact h8,Ch.append (h7.mono fun c x hc=>km _ _ _ _ hk hc) (hc1.mono fun c x hc=>km _ _ _ _ hk hc)⟩ h9):=h
def m86(h:aq:=by refine(ZZ Aa Ab ca cb _ _ w Om Om iB (cW _) (cW _) (by rw[dm,dm];exact hle) h1 h2).mono ?_;rintro e w' ⟨A,r,c,hc,_,hr,rfl,hd,hv,hs,hx⟩;exact⟨_,rfl,⟨A,r,c,rfl,hc,hd,hs,by omega,by rw[hv,dm,dm]⟩,hx⟩):=h
def m87(h:aq:=by have uy:=ok.self hv;have Vs:=ok.wk.Vf hv ht;have pM:cL D.fx v t=true:=((Mm ok.wk.tb uy (ok.wk.ne v hv)).1 ht).1;obtain⟨W1,hW1,bQ,gM⟩:=(h.drew ok).Np ok hv t;obtain⟨W2,hW2,aZ,dY⟩:=bQ.Ck ok hv true;have kT:=(h.st.drew.nc.cell (Mb (cur:=cur) hv));have hfn:=h.st.drew.nc.frozen v;have hcs:=(bQ.st.sc.cell (pX (on:=bE D.p v) hv));have uN:=bQ.st.sc.frozen v;rw[acT] at aZ;exact k87):=h
def m88(h:aq:=by
 have h1:=h o hi (fun a' w'=>(T i=false->S w')/\bZ P md ops Q S T fuel (listed.setIfInBounds i true) a' w') (fun _ _ h1 h2=>⟨h1,h2⟩);unfold wpOp;simp only[hi];split
 ·rename_i hw;rw[if_pos hw] at h1;exact .inl h1
 ·rename_i hw;rw[if_neg hw] at h1;exact h1):=h
def m89(h:aq:=by
 have kS:k+1<a.length:=by
  rcases cA (k+1) a with h|h
  ·exact h
  ·have e:k+1=a.length:=Om;have:=al0 CA CB HL (r:=r++ [T]) (c:=1) (by simp [HR.ae,e]) (HD.snoc Ga) (by rw[<-e];exact j5);omega
 have dY:=af (gM.stored k (.int .i64 (T:Int))).1;rw[List.set_set,Qk HR.ae Om] at dY;have hr1:(r++ [T]).length=k+1:=by simp [HR.ae]
 exact k89):=h
def m90(h:aq:=by obtain⟨cb,kb,hb,A,c,k1,_,_,_,hC,_,_,_⟩:=hp;obtain⟨B,d,hc,HB,hn⟩:=MP hC hl;have c1:=h.sx.cell k1;have c2:=hc w Jw;clear h hC hl hc;generalize x.ai.length=N at*;have hwr:IntKind.i64.wrap (((N+1:Nat):Int) - 1)=(N:Int):=awe;have auL:IntKind.i64.wrap ((N:Int)+1 - 1)=(N:Int):=awe;have VN:(N:Int)<(N:Int)+1:=Om;exact k90):=h
def U5(h:aq:=by
 go_wp2_with fail
 exact bodyPost_ret (v:= .bool true) (by simp [results,results43,go_sem]) rfl ⟨rfl,Ds⟩):=h
def m92(h:aq:=by
 go_upto_region 8 with fail
 have bP:ah (Ext W (W.drewN nq)):=(aB W).drewN nq;generalize W.drewN nq=W2 at*;have dY:=af (gM.ext kH bP);have ke:=af (BX.ext bP);have mI:=af (fu uY bP);have aZ:=af (bQ.trans bP);have iD:=af (vO HR bP);have gD:=af (EW (fun c x hc=>kH _ _ _ _ (fun _ _=>Hl bP) hc) HC);exact k92):=h
def m93(h:aq:=by
 have iN:decide (p.den=1)=true:=decide_eq_true et;have Xl:=af et;clear et;go_wp2_with fail
 refine(Rb _ q w1 (HVB.ext bQ) XL.1 XL.2).mono ?_;rintro e w2 ⟨rfl,hx2⟩;have xZ:=af (z8.ext hx2);have zY:=af (zZ.ext hx2);have D5:=af (tW.ext hx2);have aZ:=af (bQ.trans hx2);obtain⟨a0,a1,a2,a3⟩:=xZ.four;obtain⟨b0,b1,b2,b3⟩:=zY.four;exact k93):=h
def m94(h:aq:=by
 obtain rfl:k=kl.length:=Om;have d1:decide ((kl.length:Int)<(kl.length:Int))=false:=aY;have Js:=vg kl;rw[Xq.ae] at oT Js;have ND:ah (mv v (D.key v) cur=mv v kl cur):=by rw[ah,UC.ae]
 rw[<-UC.ae] at DJ;generalize mv v kl cur=nm at*;have HBF:=af (IsBuilderF.of oT);have aZ:=af bQ.drew;have ei:=af (HST.fB aN aZ);exact k94):=h
def U4(h:aq:=by
 go_wp2_with fail
 go_roundw;exact⟨i+1,by omega,by go_num,by first|rfl|trivial⟩;simp [RowKit.intOf];omega):=h
def m96(h:aq:=by go_enter func95,ntmps95;go_wp2_with fail;refine(V w).mono ?_;rintro e w1 ⟨rfl,hx1⟩;go_wp2_with fail;refine(HC w1).mono ?_;rintro e w2 ⟨rfl,hx2⟩;go_wp2;go_ret3;exact⟨rfl,hx1.trans hx2⟩):=h
def m97(h:aq:=by obtain⟨a,b,c,d,rfl,h1,h2⟩:=h;obtain⟨b1,A1,n1,c1,e1,H1⟩:=h1.parts;obtain⟨b2,A2,n2,c2,e2,H2⟩:=h2.parts;simp at e1 e2;obtain⟨rfl,rfl⟩:=e1;obtain⟨rfl,rfl⟩:=e2;exact⟨b1,A1,n1,c1,b2,A2,n2,c2,rfl,H1,H2⟩):=h
def U3(h:aq:=by obtain⟨ys,h1,h2⟩:=h.of;exact⟨ys,vL h1 hg (Hq hown h1 Od),h2⟩):=h
def m99(h:aq:=by have qz:=kC.frozenAt i;have hfj:=kC.frozenAt j;have Pi:=af (iO.step (by rw[vg.ae];exact xG) hlt M[j] M[i] (aX qy) (aX Dc));have oO:=af (((kC.stored i (.int .u8 (M[j].toNat:Int))).1.stored j (.int .u8 (M[i].toNat:Int))).1);rw[Zj,Zj] at oO;generalize M[i]=x at*;generalize M[j]=y at*;clear hML Dc qy;go_wp2;exact k99):=h
def afp(h:aq:=by
 have si:=af hle;have bP:ah (Ext w (W.drewN nn)):=bP.drewN nn;have H0:ah (fA (W.drewN nn) w.heap.size (.bool ba) (.slice Aa na ca) (.bool bb) (.slice Ab nb cb) (.bool false) (.slice none 0 0)):=H0.drewN nn;clear hle c0 c1 c2 c3;generalize d7 x.natAbs y.natAbs=cm at*;generalize W.drewN nn=W at*;obtain⟨c0,c1,c2,c3⟩:=H0.cells;go_wp2_with fail
 obtain⟨c0,c1,c2,c3⟩:=H0.cells;exact afK):=h
def afo(h:aq:=by have NC:ah (kr fx on cur v ia (b9 ra) (lf.take (j+1))=lo):=aw9;go_wp2_with fail;go_roundw;exact⟨j+1,by omega,by go_num,by rw[NC.ae];exact kX,Yc⟩;simp [RowKit.intOf];omega):=h
def afn(h:aq:=by
 go_wp2_with fail
 refine PG.mono ?_;rintro e w3 ⟨rfl,hx⟩;have cH:=af (Ds.trans hx);go_wp2_with fail
 exact bodyPost_ret (v:= .bool true) (by simp [results,results43,go_sem]) rfl ⟨rfl,cH⟩):=h
def Nr(h:aq:=by
 rcases cA i x.ay with h|h
 ·exact h
 ·rw[fF h] at hr;cases hr):=h
def afm(h:aq:=by
 go_upto_region 1 with fail
 refine aT fun w cG BZ=> ?_;have h:=h0.fB ok cG;have uK:wy.heap.size<w.heap.size:=BZ.lt;have uM:D.nb<wy.heap.size:=h0.st.nc.lt;have CY:D.sb<wy.heap.size:=h0.st.sc.lt;have hkb:D.kb<wy.heap.size:=h0.mem.lt;have FE:D.xb<wy.heap.size:=h0.st.sx.lt;have hw0:D.w0.heap.size<=wy.heap.size:=h0.st.ex.size;clear h0;exact afJ):=h
def afl(h:aq:=by have Vq:t%B9<1000000000:=eF _ Od;have Jm:t/B9<1000000000:=avN;have mM:=af (XQ.snoc (x:=t%B9) (eF _ Od));have DZ:=af (abl (i:=i+k) (x:=t%B9) eo (z:=((t%B9:Nat):Int)) rfl);rw[HQ.ae,yP _ _ _ _ _ HP.ae] at DZ;generalize t%B9=d at*;generalize t/B9=q at*;have Xl:=af et;go_wp2;exact afI):=h
def afk(h:aq:=by
 obtain⟨k,m',hk,uO,NV,hrd⟩:=ahe DF hT;have Nt:max (0:Int) ((T.length:Int) - 9)=(k:Int):=Om;have HK:=af hk;have HDG:=af uO;have Pj:=af hrd;have HXB:=af NV;have dR:k<=T.length:=Om;have hk9:T<=k+9:=Om;clear hk uO hrd NV;go_wp2_with fail
 clear Nt;obtain⟨wo,rfl⟩:∃wo:World,wo=wr:=⟨_,rfl⟩;exact afH):=h
def afj(h:aq:=by have kY:=af j5;clear hA j5 wX Dm;go_wp2;go_roundw;exact⟨k+1,0,r++ [T%B9],by omega,by go_num,by omega,by omega,hr1,HD.snoc Ga,kY,dY,bQ⟩;simp [RowKit.intOf];omega):=h
def afi(h:aq:=by generalize wr.drew=wd at*;have PG:=af (CV wd aZ);refine ax 0 18 ?_;refine ax 1 19 ?_;refine ax 2 20 ?_;refine ax 3 21 ?_;refine ax 4 22 ?_;refine ax 5 23 ?_;refine ax 6 24 ?_;refine ax 7 25 ?_;refine aO 8 ?_;intro K hK;go_simp;refine PG.mono ?_;rintro e5 w5 ⟨u5,O1,rfl,tD,fM,oG⟩;have dX:=af fM;have oP:=af (gD.trans oG);exact afG):=h
def afh(h:aq:=by have h1:=Gn cu w' (by rw[xR.ae];exact h) (fun a ha=>by rw[xR.ae] at ha;cases ha);rw[zK.ae cu,xR.ae] at h1;refine h1.mono ?_;rintro e w'' ⟨u,cur',h1,h2,h3,_,h5⟩;exact⟨u,cur',h1,h2,h3,h5⟩):=h
def afg(h:aq:=by have aH:ah (I W.drew):=jQ _ (gT (aB W)).drew (HMW.ext (aB W).drew);clear Gc BR;refine cD (S:=I) (T:=fun _=>false) Ok ?_;generalize W.drew=wd at*;refine ax 0 20 ?_;refine ax 1 21 ?_;refine ax 2 22 ?_;refine ax 4 24 ?_;refine ax 5 25 ?_;refine ax 6 26 ?_;refine ax 7 27 ?_;refine ax 8 28 ?_;refine ax 10 30 ?_;exact afF):=h
def aff(h:aq:=by go_wp2;go_quiet (fail);go_wp2;go_roundw;exact⟨q - 1,r+v1,congrArg _ Om,congrArg _ Om,HG',by omega,by first|exact Tz _ _|exact IR _ _ _⟩;simp [intOf];omega):=h
def afe(h:aq:=by
 obtain⟨ba,Aa,na,ca,rfl,HA⟩:=ha.parts;obtain⟨bb,Ab,nb,cb,rfl,HB⟩:=hb.parts;have JM:(ba==bb)=false:=by rw[HA.inv.1,HB.inv.1];simpa using uG
 have J5:=af uG;clear uG;have FX:=af fx;have FY:=af fy;clear ha hb fx fy;go_enter func87,ntmps87;go_wp2_with fail
 exact afE):=h
def afd(h:aq:=by obtain⟨r0,r1⟩:=jO.two;have Wv:=jO.frozen 0;have Wu:=jO.frozen 1;clear hsl hc;go_wp2;exact ul rfl rfl rfl jO.ae HV bQ (aK _) (fun v W' h1 h2=>⟨v,rfl,h1,h2⟩)):=h
def afc(h:aq:=by
 go_upto_region 1 with fail
 refine aT fun W HX BT=> ?_;have cM:=BT.lt;have hl0:=HN.lt;have bO:ah (∀w':World,aA w' bn 0 zD->aA w' bn 0 zD):=fun _ h=>h;have cC:ah (∀w':World,Ext W w'->aA w' bn 0 zD):=fun w' h=>((HN.ext HX).ext h).aF 0;have aH:=af (cC _ (aB W).drew);exact afD):=h
def TZ(h:aq:=by rintro e w' ⟨r,c,hc,rfl,hr,hv,hs,hx⟩;exact⟨_,rfl,.mk' hr (by rw[hv,dm,dm]) hc hs,hx⟩):=h
def afb(h:aq:=by have hM:=iO.done (by rw[vg.ae];exact xG) hlt;rw[List.reverse_reverse] at hM;subst hM;have hcv:=aj6 kC;go_wp2;go_ret;exact⟨rfl,qV HX (nI.mono (lK _))⟩):=h
def afa(h:aq:=by
 rw[Qf];constructor
 ·rintro⟨v,_,hv⟩;exact(fp.1 hv).1
 ·intro hh;exact⟨_,(Vn _).2 (w.lt h hh _ (w.mem h hh)),fp.2 ⟨hh,beq_self_eq_true _⟩⟩):=h
def ae_(h:aq:=by have vw:=af (BO.cy oG avL);have vt:=af (nL.cy oG avL);have bB:ah (ar w5 D.xb D.tX D.cs/\ar w5 ob dp [.bool o0,.slice O0 o1 o2,.bool p0,.slice P0 p1 p2]):=⟨fM.st.sx,vw⟩;have OB:=aZ.Nc oG;exact afC):=h
def ae'(h:aq:=by
 go_wp2_with fail
 refine qq (P:=fun W=>Calls _ _ _ W _) fun W HX BA BB BR=> ?_;refine(Rb _ p W (HVA.ext HX) XM.1 XM.2).mono ?_;rintro e w1 ⟨rfl,hx1⟩;have z8:=af (BA.ext hx1);have zZ:=af (BB.ext hx1);have tW:=af (BR.ext hx1);have bQ:=af (HX.trans hx1);obtain⟨b0,b1,b2,b3⟩:=zZ.four;exact afB):=h
def ae9(h:aq:=by have gO:=af (eo.only eD Om);have GC:=af (gN.wd eD mK);have hs3:bs<=w5.heap.size:=a7 hsd eD.size;have fX:=af (dY.only cK eD Om Oe);have aH:=gO;refine hK.ae _ _ (fun _=>aH.ae) ?_;refine ax 15 41 ?_;refine ax 16 42 ?_;refine b_ Ok ?_;exact afA):=h
def ae8(h:aq:=by go_enter func36,ntmps36;go_wp2_with fail;refine aT (P:=fun W=>Calls _ _ _ W _) fun W HX HR=> ?_;refine(HC W).mono ?_;rintro e w1 ⟨rfl,hx1⟩;go_wp2_with fail;refine(RN w1).mono ?_;rintro e w2 ⟨v2,rfl,hv2,hx2⟩;obtain⟨b2,A2,n2,c2,rfl,nC⟩:=hv2.parts;go_wp2_with fail;exact afz):=h
def TY(h:aq:=by go_wp2;go_round;exact⟨k+1,by omega,by go_num⟩;simp [RowKit.intOf];omega):=h
def ae7(h:aq:=by have HV:ah (d7 (val a) (val b)=0):=(by obtain rfl:m= -1:=Om;have:=HD.ae;simp at this;rw[this];exact aoY rfl);go_wp2;rw[HV.ae];go_ret;exact⟨rfl,_,rfl⟩):=h
def ae6(h:aq:=by have uE:=af (vO kW cG);have agL:ah (Ch (dO WZ) xr (ints (l))):=HRc.ae;clear hK;have cM:((l).length+1)*8<=140737488355328:=Om;refine jF 10 Ok ?_;intro oo mE K hK;simp only[eR,dS,dy,cY] at mE;subst mE;refine nh rfl ?_;exact afy):=h
def ae5(h:aq:=by unfold Oper.wp execOp;simp only[ho,resolve,invoke,builtin,Sem.run_bind,Sem.run_pure,Result.andThen_ok,List.map_toArray,nO,Hn,hs,hx,hr];exact h v' w' h2 h3 h5):=h
def ae4(h:aq:=by generalize w5.drew=wd at*;have CV:=af (Gn cu wd Fj GI);refine ax 0 102 ?_;refine ax 1 103 ?_;refine ax 2 104 ?_;refine ax 3 105 ?_;refine ax 4 106 ?_;refine ax 5 107 ?_;refine ax 6 108 ?_;refine ax 7 109 ?_;refine aO 8 ?_;intro K hK;go_simp;refine CV.mono ?_;rintro e8 w8 ⟨u8,OZ,rfl,ox,fV,OQ,uQ⟩;exact afx):=h
def arC(h:aq:=by
 have hn:news= []:=by
  rcases news with _|⟨u,r⟩
  ·rfl
  ·obtain⟨g,o',_,_,hA,_⟩:=hnews 0 u rfl;cases hA
 subst hn;have hm:m=0:=by
  have:=T.pos;rcases ip m with h0|h0
  ·exact h0
  ·have:=Nat.mul_pos h0 this;simp only[yg] at hl;omega
 subst hm;have hc0:=hc rfl;subst hc0;exact afw):=h
def ae3(h:aq:=by have cH:=af (aZ.trans hx3);clear hb3 hx3;go_wp2;go_roundw;exact⟨k,by omega,congrArg _ Om,gO,cH⟩;simp [RowKit.intOf];omega):=h
def TX(h:aq:=by obtain⟨ys,h1,h2⟩:=h.ol;exact⟨ys,vL h1 hg (Hq hown h1 Od),h2⟩):=h
def TW(h:aq:=by obtain⟨ys,h1,h2⟩:=h.oa;exact⟨ys,vL h1 hg (Hq hown h1 Od),h2⟩):=h
def ae2(h:aq:=by
 rcases ip n with h|h
 ·subst h;rfl
 ·have:(aW n).length≠0:=fun h0=>by have:=qW.1 (mh h0);omega
  simp;omega):=h
def TV(h:aq:=by
 rcases cA q a.heap.size with h'|h'
 ·exact h'
 ·simp [x6 h'] at h):=h
def ae1(h:aq:=by
 rw[dz (by rw[jN.ae];exact aK _)] at HU;have hall:∀a,a<N->bs[a]? =some true:=fun a ha=>by obtain⟨r,hr,hm⟩:=aN.used a (by rw[HN.ae];exact ha);have h:=HU.2 (a:Int) (o7.2 ⟨r,hr,hm⟩);rw[kg] at h;exact h
 rw[anJ HU.1 hall] at BU;exact afv):=h
def ae0(h:aq:=by go_quiet (fail);go_wp2;go_roundw;exact⟨j+1,by omega,by go_num,⟨_,rfl⟩,by rw[ah,HA.ae,HAS.ae];simp⟩;simp [RowKit.intOf];omega):=h
def arB(h:aq:=by refine a7 (RA y.2 (fun fx a ha=>amH ok (abf hB) fx (hy.ao a ha)) _) ?_;exact a7 (fN Od hy.al) Od):=h
def aeZ(h:aq:=by refine ax 0 14 ?_;refine ax 1 15 ?_;refine ax 2 16 ?_;refine ax 3 17 ?_;refine ax 4 18 ?_;refine ax 5 19 ?_;refine ax 6 20 ?_;refine ax 7 21 ?_;refine ax 8 22 ?_;refine ax 9 23 ?_;refine ax 10 24 ?_;refine ax 11 25 ?_;refine aO 12 ?_;intro K hK;go_simp;rw[Du.ae];refine hK.ae _ _ (fun _=>bB.ae) ?_;exact afu):=h
def aeY(h:aq:=by
 rcases h with⟨hB,v,hb,ho,hn⟩|⟨hB,v,hb,ho,hn⟩
 ·exact .inl ⟨hB,v,hb'.trans hb,own ho,hn⟩
 ·exact .inr ⟨hB,v,hb'.trans hb,own ho,hn⟩):=h
def wE(h:aq:=by obtain⟨ba,Aa,na,ca,rfl,HA⟩:=ha.parts;obtain⟨bb,Ab,nb,cb,rfl,HB⟩:=hb.parts;have FX:=af fx;have FY:=af fy;exact wG):=h
def aeX(h:aq:=by
 obtain⟨ba,Aa,na,ca,rfl,HA⟩:=ha.parts;obtain⟨bb,Ab,nb,cb,rfl,HB⟩:=hb.parts;have JM:(ba==bb)=false:=by rw[HA.inv.1,HB.inv.1];simpa using uG
 have J5:=af uG;have FX:=af fx;have FY:=af fy;go_enter func76,ntmps76;exact aft):=h
def aeW(h:aq:=by go_wp2;refine yH rfl rfl rfl jC.ae (.mk' jO.ae iD.ae) (HX.trans rK) Om (fun v W' h1 h2=>⟨v,rfl,?_,h2⟩);rw[<-QZ];exact h1):=h
def aeV(h:aq:=by go_wp2;refine yH rfl rfl rfl jC.ae (.mk' jO.ae iD.ae) (HX.trans rJ) Om (fun v W' h1 h2=>⟨v,rfl,?_,h2⟩);rw[<-Ht];exact h1):=h
def aeU(h:aq:=by go_enter func128,ntmps128;go_wp2;go_ret;exact⟨mV HS.symm,(aB w).alloc _⟩):=h
def aeT(h:aq:=by rw[ah,kF];rw[show D.R.prod ([]:List Nat) (fun c=>D.vT c (put cur v t))=D.R.one from rfl,SR.zh];have h:=HU.ae;rwa[fj] at h):=h
def aeS(h:aq:=by simp only[eR,dS,dy,cY] at ho;subst ho;refine⟨rfl,rfl,fun w'=> ?_⟩;go_simp):=h
def aeR(h:aq:=by
 go_upto_region 1 with fail
 refine aT fun W HX BX=> ?_;obtain⟨s0,s1⟩:=BX.two;go_wp2;go_ret;exact⟨rfl,HX⟩):=h
def TT(h:aq:=by
 go_enter func44,ntmps44;go_upto_region 1 with fail
 refine aT fun W HX BX=> ?_;obtain⟨s0,s1⟩:=BX.two;go_wp2_with fail;exact T5):=h
def aeQ(h:aq:=by clear hl;go_enter func161,ntmps161;go_wp2;go_ret;exact⟨mV HV.symm,0,rfl⟩):=h
def aeP(h:aq:=by have aZ:=af (HX.drew aN);have gD:=af HC.drew;have nL:=af BZ.drew;obtain⟨o0,O0,o1,o2,p0,P0,p1,p2,BO,VO⟩:=HU.drew.parts;have aH:ah (ar wr.drew D.xb D.tX D.cs/\ar wr.drew ob dp [.bool o0,.slice O0 o1 o2,.bool p0,.slice P0 p1 p2]):=⟨aZ.st.sx,BO⟩;exact afs):=h
def aeO(h:aq:=by
 have iM:j<ls.length:=by rw[<-h.len];exact(t_.1 hu).1
 exact((h.own j u _ hu (aX iM)).blk hb).2.1):=h
def aeN(h:aq:=by have dX:=af (dD.trans fM);clear ny fM;go_wp2;go_roundw;exact⟨k,by omega,rfl,sB,dX⟩;simp [RowKit.intOf]):=h
def aeM(h:aq:=by have:=Sp (i:=i+k) eo (by rw[HQ.ae,bC,HP.ae,cP];omega);rw[this,HQ.ae,Bg _ _ _ _ HP.ae]):=h
def aeL(h:aq:=by
 go_wp2_with fail
 go_roundw;exact⟨j+1,_,bf,_,by omega,by go_num,tR.skip,dJ⟩;simp [RowKit.intOf];omega):=h
def aeK(h:aq:=by rw[beq_eq_false_iff_ne];intro h;have h0:q.num=0:=yL (h.trans Bo.symm);have:=q.reduced;rw[h0] at this;exact h1 (by simpa using this)):=h
def auH(h:aq:=by
 apply Array.ext_getElem?
 intro j;by_cases e1:j=i1
 ·subst e1;rw[h1,h3]
 ·by_cases e2:j=i2
  ·subst e2;rw[h2,h4]
  ·exact hL j e1 e2):=h
def aeJ(h:aq:=by
 show o.take k++(if g7 o[k].1 x.1=true then o[k]::fJ x (o.drop (k+1)) else if (o[k].1==x.1)=true then _ else _)=_
 rw[hl,he];rfl):=h
def auG(h:aq:=by
 show o.take k++(if g7 o[k].1 x.1=true then o[k]::afL x (o.drop (k+1)) else if (o[k].1==x.1)=true then _ else _)=_
 rw[hl,he];rfl):=h
def auF(h:aq:=by
 rcases P9 z 0 with h|h|h
 ·rw[G5 h];omega
 ·subst h;simp
 ·rw[Aj h];omega):=h
def aeI(h:aq:=by go_wp2;go_roundw;exact⟨i+1,by omega,by go_num,by rw[HW.ae,tO.ae],trivial⟩;simp [RowKit.intOf];omega):=h
def TS(h:aq:=by have CN1:=af (CN W HX);obtain⟨s0,s1,s2,s3⟩:=BX.four;go_wp2_with fail;refine CN1.mono ?_;rintro e1 w1 ⟨A1,rfl,hv,hx⟩;have bQ:=af (HX.trans hx);have sj:=af hv;exact T2):=h
def aeH(h:aq:=by have a1:=ok.cm;have a2:=ok.cw;have a3:=h.st.cN;have a4:=h.st.cS;exact fun w' h=>⟨h.cell a1,h.cell a2,h.cell a3,h.cell a4⟩):=h
def aeG(h:aq:=by
 generalize t++ [0]=t0 at*;go_wp2_with fail;refine CW.mono ?_;rintro e6 w6 ⟨rfl,V',gI⟩;have xO:ah (IsBuilder tB t8 w.heap.size w.heap.size (byteCells (UInt8.ofNat v::jW ((kl.take (k+1)).map cur))) w6):=by rw[as_.ae];exact .inr V'
 have dG:ah (Ext w w6):=qV bQ gI;exact afr):=h
def aeF(h:aq:=by obtain⟨_,_,hA,_,hc⟩:=SV.at_ (ko hk);injection hA with hA;injection hA with h1 h2;subst h1 h2;rw[hc,f4 hk]):=h
def aeE(h:aq:=by rintro e w9 ⟨rfl,jJ⟩;go_wp2;go_ret;exact⟨by rw[Dz.ae];rfl,qV HX ((bQ.trans jJ).mono (lK _))⟩):=h
def aeD(h:aq:=by go_wp2;go_roundw;exact⟨i+1,by omega,by go_num,by rw[tO.ae],trivial⟩;simp [RowKit.intOf];omega):=h
def aeC(h:aq:=by
 go_wp2_with fail
 go_roundw;exact⟨i+1,by omega,by go_num,aqg HQ _⟩;simp [RowKit.intOf];omega):=h
def aeB(h:aq:=by have au0:(a:Int)%1000000000=0:=jK;clear FO jK;go_wp2_with (at_builtin;refine gQ rfl _ _ pI rfl (w.heap.size+1+1) jE _ _ _ rfl HOW.ae #[.int .i64 ((0:Nat):Int)] 1 1 rfl rfl rfl Om hsz ?_);intro v' w3 eD hg3 hb3;obtain⟨A3,c3,rfl,hc3,_,_⟩:=ej eD;exact afq):=h
def aeA(h:aq:=by have h1:=HU.1;exact⟨_,BU.cell (i:=q) (by rw[pD,dL,aX Om];rfl)⟩):=h
end Go.Proofs.YtadbchhdjbghkaaGreatDoor
