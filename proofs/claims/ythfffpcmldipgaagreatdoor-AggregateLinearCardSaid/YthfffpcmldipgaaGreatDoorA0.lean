/- Contracts of Go's library, laid by the kit's tool. -/
import Derived.Shelf.Strings.Builder1
import Derived.Shelf.Strings.Builder2
import Derived.Shelf.Small.Bits
import Derived.Shelf.Small.Wraps
import Derived.Shelf.Strings.BuilderF
import Derived.Shelf.Strings.BuilderK
import Derived.Shelf.Strconv.Itoa0
import Derived.Shelf.Strconv.Itoa1
import Derived.Shelf.LaysM
import Derived.Shelf.Strconv.Itoa2
import Derived.Shelf.Strconv.Itoa3
import Derived.Ground.MpProg
import Derived.Shelf.Pu.ParseUintPublic10
import Derived.Shelf.Strings.Search1
import Derived.Shelf.Strings.Search2
import Derived.Shelf.Strings.Cut
import Derived.Shelf.Strings.Shaped
import Derived.Shelf.Sort.Plain
import Derived.Shelf.Strings.Prefix
import Derived.Shelf.Bits.Mul64
import Derived.Shelf.Strings.Repeat
import Derived.Shelf.Slices.Turned
import Derived.Ground.Names2Prog
import Derived.Shelf.Slices.Clone
import Derived.Shelf.Slices.CompactS
import Derived.Shelf.Slices.In.SortNone
import Derived.Test.YthfffpcmldipgaaGreatDoorProg
open Go.Shelf
namespace Go.Proofs
open Go.RowKit Go.Lib
theorem Oe{p:Prop}(h:p:=by (first|(intro h;cases h;done)|(intros;rename_i h;cases h))):p:=h
theorem On{p:Prop}(h:p:=by go_num):p:=h
theorem Om{p:Prop}(h:p:=by omega):p:=h
theorem Od{p:Prop}(h:p:=by decide):p:=h
theorem Ok{p:Prop}(h:p:=by kernel_rfl):p:=h
theorem Ou{p:Prop}(h:p:=by simp):p:=h
theorem Oc{p:Prop}(h:p:=by (simp;omega)):p:=h
theorem Oz{p:Prop}(h:p:=by (simp [Go.RowKit.intOf];omega)):p:=h
def Tryz.abm:Go.Shelf.Ren:=⟨fun|169=>180|n=>n,fun|70=>241|9=>9|0=>0|72=>243|37=>192|127=>298|3=>3|5=>5|n=>n,fun|n=>n⟩
theorem Tryz.aeS:Go.Proofs.Lays.n169 Tryz.prog Tryz.abm:={
 mixed:=Ok
 f169:=Tryz.func180.trans (congrArg some Ok)
 t0:=Tryz.underlying0
 a0:=Tryz.isAgg0
 z0:=Tryz.sizeOf0
 v0:=Tryz.zeroValue0
 t3:=Tryz.underlying3
 a3:=Tryz.isAgg3
 z3:=Tryz.sizeOf3
 v3:=Tryz.zeroValue3
 t9:=Tryz.underlying9
 a9:=Tryz.isAgg9
 z9:=Tryz.sizeOf9
 v9:=Tryz.zeroValue9
 t37:=Tryz.underlying192
 a37:=Tryz.isAgg192
 z37:=Tryz.sizeOf192
 v37:=Tryz.zeroValue192
 t70:=Tryz.underlying241
 a70:=Tryz.isAgg241
 z70:=Tryz.sizeOf241
 v70:=Tryz.zeroValue241
 t72:=Tryz.underlying243
 a72:=Tryz.isAgg243
 z72:=Tryz.sizeOf243
 v72:=Tryz.zeroValue243
 t127:=Tryz.underlying298
 a127:=Tryz.isAgg298
 z127:=Tryz.sizeOf298
 v127:=Tryz.zeroValue298}
theorem Tryz.DG:Builder.Extra Tryz.prog Tryz.abm:={
 sizeBuilder:=Ok
 liesBuilder:=Ok
 t5:=Tryz.underlying5
 a5:=Tryz.isAgg5
 z5:=Tryz.sizeOf5
 v5:=Tryz.zeroValue5
 infoByte:=Ok
 cellsByte:=Ok
 sizeByte:=Ok
 neB5:=by decide}
theorem Tryz.Builder_String_any(B b:Nat)(l:List UInt8)(w:World)(h:Lib.IsBuilder 243 5 B b (Lib.byteCells l) w)(Zz:B≤w.heap.size):
 Calls Tryz.prog 180 #[.pointer (some ⟨b,0,none⟩)] w fun e w'=>e= .returned (.string ⟨l.toArray⟩)∧Below B w w':=Any.Builder_String_any Tryz.aeS Tryz.DG B b l w h Zz
def Tryz.aw7:Go.Shelf.Ren:=⟨fun|210=>263|206=>273|n=>n,fun|9=>9|4=>4|3=>3|n=>n,fun|n=>n⟩
def Tryz.akJ:Go.Shelf.Ren:=⟨fun|103=>226|210=>263|206=>273|n=>n,fun|9=>9|4=>4|24=>290|3=>3|n=>n,fun|n=>n⟩
theorem Tryz.aq3:Go.Proofs.Lays.n103 Tryz.prog Tryz.akJ:={
 mixed:=Ok
 f103:=Tryz.func226.trans (congrArg some Ok)
 f206:=Tryz.func273.trans (congrArg some Ok)
 f210:=Tryz.func263.trans (congrArg some Ok)
 t3:=Tryz.underlying3
 a3:=Tryz.isAgg3
 z3:=Tryz.sizeOf3
 v3:=Tryz.zeroValue3
 t4:=Tryz.underlying4
 a4:=Tryz.isAgg4
 z4:=Tryz.sizeOf4
 v4:=Tryz.zeroValue4
 t9:=Tryz.underlying9
 a9:=Tryz.isAgg9
 z9:=Tryz.sizeOf9
 v9:=Tryz.zeroValue9
 t24:=Tryz.underlying290
 a24:=Tryz.isAgg290
 z24:=Tryz.sizeOf290
 v24:=Tryz.zeroValue290}
theorem Tryz.strings_CutPrefix(s p:ByteArray)(w:World):
 Calls Tryz.prog 226 #[.string s,.string p] w fun e w'=>e= .returned (.tuple #[.string ⟨(Lib.trimPrefix s.data.toList p.data.toList).toArray⟩,.bool (Lib.hasPrefix s.data.toList p.data.toList)])∧w'=w:=Any.strings_CutPrefix Tryz.aq3 s p w
theorem Tryz.Builder_String_any_k(B b:Nat)(l:List UInt8)(w:World)(h:Lib.IsBuilderF 243 5 B b (Lib.byteCells l) w)(Zz:B≤w.heap.size):
 Calls Tryz.prog 180 #[.pointer (some ⟨b,0,none⟩)] w fun e w'=>e= .returned (.string ⟨l.toArray⟩)∧(Lib.IsBuilderF 243 5 B b (Lib.byteCells l) w'∧Below B w w'∧Lib.OthersKept 5 (some b) w w'):=Any.Builder_String_any_k Tryz.aeS Tryz.DG B b l w h Zz
def Tryz.akC:Go.Shelf.Ren:=⟨fun|283=>267|n=>n,fun|3=>3|9=>9|4=>4|n=>n,fun|n=>n⟩
theorem Tryz.aqY:Go.Proofs.Lays.n283 Tryz.prog Tryz.akC:={
 mixed:=Ok
 f283:=Tryz.func267.trans (congrArg some Ok)
 t3:=Tryz.underlying3
 a3:=Tryz.isAgg3
 z3:=Tryz.sizeOf3
 v3:=Tryz.zeroValue3
 t4:=Tryz.underlying4
 a4:=Tryz.isAgg4
 z4:=Tryz.sizeOf4
 v4:=Tryz.zeroValue4
 t9:=Tryz.underlying9
 a9:=Tryz.isAgg9
 z9:=Tryz.sizeOf9
 v9:=Tryz.zeroValue9}
theorem Tryz.internal_strconv_small(i:Nat)(h:i<100)(w:World):
 Calls Tryz.prog 267 #[.int .i64 i] w fun e w'=>e= .returned (.string ⟨(Lib.decDigits i).toArray⟩)∧w'=w:=Any.internal_strconv_small Tryz.aqY i h w
def Tryz.aj9:Go.Shelf.Ren:=⟨fun|284=>268|129=>301|317=>300|318=>302|n=>n,fun|53=>249|3=>3|212=>346|0=>0|4=>4|46=>208|5=>5|9=>9|n=>n,fun|17=>1|n=>n⟩
theorem Tryz.apq:Go.Proofs.LaysM.n284 Tryz.prog Tryz.aj9:={
 mixed:=Ok
 f129:=Tryz.func301.trans (congrArg some Ok)
 f284:=Tryz.func268.trans (congrArg some Ok)
 f317:=Tryz.func300.trans (congrArg some Ok)
 f318:=Tryz.func302.trans (congrArg some Ok)
 t0:=Tryz.underlying0
 a0:=Tryz.isAgg0
 z0:=Tryz.sizeOf0
 v0:=Tryz.zeroValue0
 t3:=Tryz.underlying3
 a3:=Tryz.isAgg3
 z3:=Tryz.sizeOf3
 v3:=Tryz.zeroValue3
 t4:=Tryz.underlying4
 a4:=Tryz.isAgg4
 z4:=Tryz.sizeOf4
 v4:=Tryz.zeroValue4
 t5:=Tryz.underlying5
 a5:=Tryz.isAgg5
 z5:=Tryz.sizeOf5
 v5:=Tryz.zeroValue5
 t9:=Tryz.underlying9
 a9:=Tryz.isAgg9
 z9:=Tryz.sizeOf9
 v9:=Tryz.zeroValue9
 t46:=Tryz.underlying208
 a46:=Tryz.isAgg208
 z46:=Tryz.sizeOf208
 v46:=Tryz.zeroValue208
 t53:=Tryz.underlying249
 a53:=Tryz.isAgg249
 z53:=Tryz.sizeOf249
 v53:=Tryz.zeroValue249
 t212:=Tryz.underlying346
 a212:=Tryz.isAgg346
 z212:=Tryz.sizeOf346
 v212:=Tryz.zeroValue346
 g17:=Ok
 i0:=Ok
 i3:=Ok
 i4:=Ok
 i5:=Ok
 i9:=Ok
 i46:=Ok
 i53:=Ok
 i212:=Ok
 m17:=by kernel_rfl}
theorem Tryz.internal_strconv_numDigits(u:Nat)(h1:1≤u)(h2:u<18446744073709551616)(w:World)(auV:Lib.TabIs Tryz.prog w "internal/strconv.uint64pow10" .u64 Lib.pow10Tab):
 Calls Tryz.prog 268 #[.int .u64 u] w fun e w'=>e= .returned (.int .i64 (Lib.nDigits u))∧w'=w:=Any.internal_strconv_numDigits Tryz.apq u h1 h2 w auV
def Tryz.akB:Go.Shelf.Ren:=⟨fun|285=>269|n=>n,fun|37=>192|53=>249|3=>3|4=>4|51=>325|9=>9|5=>5|0=>0|n=>n,fun|n=>n⟩
theorem Tryz.aqX:Go.Proofs.Lays.n285 Tryz.prog Tryz.akB:={
 mixed:=Ok
 f285:=Tryz.func269.trans (congrArg some Ok)
 t0:=Tryz.underlying0
 a0:=Tryz.isAgg0
 z0:=Tryz.sizeOf0
 v0:=Tryz.zeroValue0
 t3:=Tryz.underlying3
 a3:=Tryz.isAgg3
 z3:=Tryz.sizeOf3
 v3:=Tryz.zeroValue3
 t4:=Tryz.underlying4
 a4:=Tryz.isAgg4
 z4:=Tryz.sizeOf4
 v4:=Tryz.zeroValue4
 t5:=Tryz.underlying5
 a5:=Tryz.isAgg5
 z5:=Tryz.sizeOf5
 v5:=Tryz.zeroValue5
 t9:=Tryz.underlying9
 a9:=Tryz.isAgg9
 z9:=Tryz.sizeOf9
 v9:=Tryz.zeroValue9
 t37:=Tryz.underlying192
 a37:=Tryz.isAgg192
 z37:=Tryz.sizeOf192
 v37:=Tryz.zeroValue192
 t51:=Tryz.underlying325
 a51:=Tryz.isAgg325
 z51:=Tryz.sizeOf325
 v51:=Tryz.zeroValue325
 t53:=Tryz.underlying249
 a53:=Tryz.isAgg249
 z53:=Tryz.sizeOf249
 v53:=Tryz.zeroValue249}
open Go.Sort in
theorem Tryz.internal_strconv_formatBase10(blk off cap:Nat)(u:Nat)(d:Array UInt8)(w:World)(hH:Holds (fun(b:UInt8)=>Value.int .u8 (b.toNat:Int)) w blk off d)(hu:u<10^d.size)(auU:u<18446744073709551616)(hsz:d.size<4611686018427387904):
 Calls Tryz.prog 269 #[.slice (some ⟨blk,off,none⟩) d.size cap,.int .u64 u] w fun e w'=>
  e= .returned (.tuple #[])∧∃(n v':Nat) (dk:Array UInt8),w'=(putRow (fun(b:UInt8)=>Value.int .u8 (b.toNat:Int)) w blk off dk).drewN n∧FmtInv d.size u 0 v' dk:=Any.internal_strconv_formatBase10 Tryz.aqX blk off cap u d w hH hu auU hsz
def Tryz.aj8:Go.Shelf.Ren:=⟨fun|14=>227|16=>264|17=>265|19=>294|20=>295|21=>296|22=>297|23=>298|24=>299|25=>321|27=>323|26=>322|28=>331|29=>333|30=>267|31=>268|32=>269|33=>270|35=>301|34=>300|36=>302|37=>303|38=>304|39=>324|40=>325|n=>n,fun|9=>9|3=>3|22=>249|24=>245|25=>292|4=>4|34=>340|5=>5|36=>208|37=>192|0=>0|39=>342|21=>21|44=>361|47=>298|50=>370|48=>368|2=>2|52=>320|55=>323|59=>346|60=>325|20=>20|61=>347|65=>371|66=>372|67=>177|n=>n,fun|0=>2|1=>3|2=>1|3=>4|4=>5|n=>n⟩
theorem Tryz.apo:Go.Proofs.LaysPu.n14 Tryz.prog Tryz.aj8:={
 mixed:=Ok
 f14:=Tryz.func227.trans (congrArg some Ok)
 f16:=Tryz.func264.trans (congrArg some Ok)
 f17:=Tryz.func265.trans (congrArg some Ok)
 f19:=Tryz.func294.trans (congrArg some Ok)
 f20:=Tryz.func295.trans (congrArg some Ok)
 f21:=Tryz.func296.trans (congrArg some Ok)
 f22:=Tryz.func297.trans (congrArg some Ok)
 f23:=Tryz.func298.trans (congrArg some Ok)
 f24:=Tryz.func299.trans (congrArg some Ok)
 f25:=Tryz.func321.trans (congrArg some Ok)
 f26:=Tryz.func322.trans (congrArg some Ok)
 f27:=Tryz.func323.trans (congrArg some Ok)
 f28:=Tryz.func331.trans (congrArg some Ok)
 f29:=Tryz.func333.trans (congrArg some Ok)
 f30:=Tryz.func267.trans (congrArg some Ok)
 f31:=Tryz.func268.trans (congrArg some Ok)
 f32:=Tryz.func269.trans (congrArg some Ok)
 f33:=Tryz.func270.trans (congrArg some Ok)
 f34:=Tryz.func300.trans (congrArg some Ok)
 f35:=Tryz.func301.trans (congrArg some Ok)
 f36:=Tryz.func302.trans (congrArg some Ok)
 f37:=Tryz.func303.trans (congrArg some Ok)
 f38:=Tryz.func304.trans (congrArg some Ok)
 f39:=Tryz.func324.trans (congrArg some Ok)
 f40:=Tryz.func325.trans (congrArg some Ok)
 t0:=Tryz.underlying0
 a0:=Tryz.isAgg0
 z0:=Tryz.sizeOf0
 v0:=Tryz.zeroValue0
 i0:=Ok
 t2:=Tryz.underlying2
 a2:=Tryz.isAgg2
 z2:=Tryz.sizeOf2
 v2:=Tryz.zeroValue2
 i2:=Ok
 t3:=Tryz.underlying3
 a3:=Tryz.isAgg3
 z3:=Tryz.sizeOf3
 v3:=Tryz.zeroValue3
 i3:=Ok
 t4:=Tryz.underlying4
 a4:=Tryz.isAgg4
 z4:=Tryz.sizeOf4
 v4:=Tryz.zeroValue4
 i4:=Ok
 t5:=Tryz.underlying5
 a5:=Tryz.isAgg5
 z5:=Tryz.sizeOf5
 v5:=Tryz.zeroValue5
 i5:=Ok
 t9:=Tryz.underlying9
 a9:=Tryz.isAgg9
 z9:=Tryz.sizeOf9
 v9:=Tryz.zeroValue9
 i9:=Ok
 t20:=Tryz.underlying20
 a20:=Tryz.isAgg20
 z20:=Tryz.sizeOf20
 v20:=Tryz.zeroValue20
 i20:=Ok
 t21:=Tryz.underlying21
 a21:=Tryz.isAgg21
 z21:=Tryz.sizeOf21
 v21:=Tryz.zeroValue21
 i21:=Ok
 t22:=Tryz.underlying249
 a22:=Tryz.isAgg249
 z22:=Tryz.sizeOf249
 v22:=Tryz.zeroValue249
 i22:=Ok
 t24:=Tryz.underlying245
 a24:=Tryz.isAgg245
 z24:=Tryz.sizeOf245
 v24:=Tryz.zeroValue245
 i24:=Ok
 t25:=Tryz.underlying292
 a25:=Tryz.isAgg292
 z25:=Tryz.sizeOf292
 v25:=Tryz.zeroValue292
 i25:=Ok
 t34:=Tryz.underlying340
 a34:=Tryz.isAgg340
 z34:=Tryz.sizeOf340
 v34:=Tryz.zeroValue340
 i34:=Ok
 c34:=Ok
 t36:=Tryz.underlying208
 a36:=Tryz.isAgg208
 z36:=Tryz.sizeOf208
 v36:=Tryz.zeroValue208
 i36:=Ok
 t37:=Tryz.underlying192
 a37:=Tryz.isAgg192
 z37:=Tryz.sizeOf192
 v37:=Tryz.zeroValue192
 i37:=Ok
 t39:=Tryz.underlying342
 a39:=Tryz.isAgg342
 z39:=Tryz.sizeOf342
 v39:=Tryz.zeroValue342
 i39:=Ok
 t44:=Tryz.underlying361
 a44:=Tryz.isAgg361
 z44:=Tryz.sizeOf361
 v44:=Tryz.zeroValue361
 i44:=Ok
 t47:=Tryz.underlying298
 a47:=Tryz.isAgg298
 z47:=Tryz.sizeOf298
 v47:=Tryz.zeroValue298
 i47:=Ok
 t48:=Tryz.underlying368
 a48:=Tryz.isAgg368
 z48:=Tryz.sizeOf368
 v48:=Tryz.zeroValue368
 i48:=Ok
 t50:=Tryz.underlying370
 a50:=Tryz.isAgg370
 z50:=Tryz.sizeOf370
 v50:=Tryz.zeroValue370
 i50:=Ok
 t52:=Tryz.underlying320
 a52:=Tryz.isAgg320
 z52:=Tryz.sizeOf320
 v52:=Tryz.zeroValue320
 i52:=Ok
 t55:=Tryz.underlying323
 a55:=Tryz.isAgg323
 z55:=Tryz.sizeOf323
 v55:=Tryz.zeroValue323
 i55:=Ok
 t59:=Tryz.underlying346
 a59:=Tryz.isAgg346
 z59:=Tryz.sizeOf346
 v59:=Tryz.zeroValue346
 i59:=Ok
 t60:=Tryz.underlying325
 a60:=Tryz.isAgg325
 z60:=Tryz.sizeOf325
 v60:=Tryz.zeroValue325
 i60:=Ok
 t61:=Tryz.underlying347
 a61:=Tryz.isAgg347
 z61:=Tryz.sizeOf347
 t65:=Tryz.underlying371
 a65:=Tryz.isAgg371
 z65:=Tryz.sizeOf371
 v65:=Tryz.zeroValue371
 i65:=Ok
 t66:=Tryz.underlying372
 a66:=Tryz.isAgg372
 z66:=Tryz.sizeOf372
 v66:=Tryz.zeroValue372
 i66:=Ok
 t67:=Tryz.underlying177
 a67:=Tryz.isAgg177
 z67:=Tryz.sizeOf177
 v67:=Tryz.zeroValue177
 i67:=Ok
 g0:=Ok
 m0:=Ok
 g1:=Ok
 m1:=Ok
 g2:=Ok
 m2:=Ok
 g3:=Ok
 m3:=Ok
 g4:=Ok
 m4:=by kernel_rfl}
theorem Tryz.strconv_ParseUint_10_at64_ok(s:ByteArray)(Qs:s.size≤9223372036854775806)(u:Nat)(h:Lib.parseUintB 64 s.data.toList= .ok u)(w:World):
 Calls Tryz.prog 227 #[.string s,.int .i64 10,.int .i64 64] w fun e w'=>e= .returned (.tuple #[.int .u64 u,.nilIface])∧(w'=w∨w'=Lib.bytesWorld w 5 s):=Any.strconv_ParseUint_10_at64_ok Tryz.apo s Qs u h w
def Tryz.akD:Go.Shelf.Ren:=⟨fun|217=>290|266=>319|n=>n,fun|9=>9|5=>5|3=>3|n=>n,fun|n=>n⟩
theorem Tryz.aqZ:Go.Proofs.Lays.n217 Tryz.prog Tryz.akD:={
 mixed:=Ok
 f217:=Tryz.func290.trans (congrArg some Ok)
 f266:=Tryz.func319.trans (congrArg some Ok)
 t3:=Tryz.underlying3
 a3:=Tryz.isAgg3
 z3:=Tryz.sizeOf3
 v3:=Tryz.zeroValue3
 t5:=Tryz.underlying5
 a5:=Tryz.isAgg5
 z5:=Tryz.sizeOf5
 v5:=Tryz.zeroValue5
 t9:=Tryz.underlying9
 a9:=Tryz.isAgg9
 z9:=Tryz.sizeOf9
 v9:=Tryz.zeroValue9}
theorem Tryz.stringslite_IndexByte(s:ByteArray)(c:Int)(w:World):
 Calls Tryz.prog 290 #[.string s,.int .u8 c] w fun e w'=>e= .returned (.int .i64 (Lib.indexByte s.data.toList c.toNat.toUInt8))∧w'=w:=Any.stringslite_IndexByte Tryz.aqZ s c w
def Tryz.akF:Go.Shelf.Ren:=⟨fun|190=>248|125=>280|258=>279|128=>316|129=>301|302=>307|303=>308|304=>309|305=>310|306=>311|307=>312|308=>313|309=>314|310=>315|333=>326|329=>327|330=>328|334=>329|335=>330|336=>306|344=>332|n=>n,fun|31=>39|9=>9|3=>3|46=>208|0=>0|51=>325|53=>249|4=>4|183=>351|182=>350|131=>183|5=>5|218=>363|222=>366|228=>373|229=>374|n=>n,fun|n=>n⟩
theorem Tryz.aeR:Go.Proofs.Lays.n190 Tryz.prog Tryz.akF:={
 mixed:=Ok
 f125:=Tryz.func280.trans (congrArg some Ok)
 f128:=Tryz.func316.trans (congrArg some Ok)
 f129:=Tryz.func301.trans (congrArg some Ok)
 f190:=Tryz.func248.trans (congrArg some Ok)
 f258:=Tryz.func279.trans (congrArg some Ok)
 f302:=Tryz.func307.trans (congrArg some Ok)
 f303:=Tryz.func308.trans (congrArg some Ok)
 f304:=Tryz.func309.trans (congrArg some Ok)
 f305:=Tryz.func310.trans (congrArg some Ok)
 f306:=Tryz.func311.trans (congrArg some Ok)
 f307:=Tryz.func312.trans (congrArg some Ok)
 f308:=Tryz.func313.trans (congrArg some Ok)
 f309:=Tryz.func314.trans (congrArg some Ok)
 f310:=Tryz.func315.trans (congrArg some Ok)
 f329:=Tryz.func327.trans (congrArg some Ok)
 f330:=Tryz.func328.trans (congrArg some Ok)
 f333:=Tryz.func326.trans (congrArg some Ok)
 f334:=Tryz.func329.trans (congrArg some Ok)
 f335:=Tryz.func330.trans (congrArg some Ok)
 f336:=Tryz.func306.trans (congrArg some Ok)
 f344:=Tryz.func332.trans (congrArg some Ok)
 t0:=Tryz.underlying0
 a0:=Tryz.isAgg0
 z0:=Tryz.sizeOf0
 v0:=Tryz.zeroValue0
 t3:=Tryz.underlying3
 a3:=Tryz.isAgg3
 z3:=Tryz.sizeOf3
 v3:=Tryz.zeroValue3
 t4:=Tryz.underlying4
 a4:=Tryz.isAgg4
 z4:=Tryz.sizeOf4
 v4:=Tryz.zeroValue4
 t5:=Tryz.underlying5
 a5:=Tryz.isAgg5
 z5:=Tryz.sizeOf5
 v5:=Tryz.zeroValue5
 t9:=Tryz.underlying9
 a9:=Tryz.isAgg9
 z9:=Tryz.sizeOf9
 v9:=Tryz.zeroValue9
 t31:=Tryz.underlying39
 a31:=Tryz.isAgg39
 z31:=Tryz.sizeOf39
 v31:=Tryz.zeroValue39
 t46:=Tryz.underlying208
 a46:=Tryz.isAgg208
 z46:=Tryz.sizeOf208
 v46:=Tryz.zeroValue208
 t51:=Tryz.underlying325
 a51:=Tryz.isAgg325
 z51:=Tryz.sizeOf325
 v51:=Tryz.zeroValue325
 t53:=Tryz.underlying249
 a53:=Tryz.isAgg249
 z53:=Tryz.sizeOf249
 v53:=Tryz.zeroValue249
 t131:=Tryz.underlying183
 a131:=Tryz.isAgg183
 z131:=Tryz.sizeOf183
 v131:=Tryz.zeroValue183
 t182:=Tryz.underlying350
 a182:=Tryz.isAgg350
 z182:=Tryz.sizeOf350
 v182:=Tryz.zeroValue350
 t183:=Tryz.underlying351
 a183:=Tryz.isAgg351
 z183:=Tryz.sizeOf351
 v183:=Tryz.zeroValue351
 t218:=Tryz.underlying363
 a218:=Tryz.isAgg363
 z218:=Tryz.sizeOf363
 v218:=Tryz.zeroValue363
 t222:=Tryz.underlying366
 a222:=Tryz.isAgg366
 z222:=Tryz.sizeOf366
 v222:=Tryz.zeroValue366
 t228:=Tryz.underlying373
 a228:=Tryz.isAgg373
 z228:=Tryz.sizeOf373
 v228:=Tryz.zeroValue373
 t229:=Tryz.underlying374
 a229:=Tryz.isAgg374
 z229:=Tryz.sizeOf374
 v229:=Tryz.zeroValue374}
open Go.Sort in
theorem Tryz.slices_Sort_string(blk off cap:Nat)(ss:List (List UInt8))(w:World)(hH:Holds encStr w blk off ss.toArray)(hblk:blk<w.heap.size)(hsz:ss.length<4611686018427387904):
 Calls Tryz.prog 248 #[.slice (some ⟨blk,off,none⟩) ss.length cap] w fun e w'=>
  e= .returned (.tuple #[])∧∃n os,w'=grow (putRow encStr (Sort.ahead w n) blk off (ss.mergeSort fun x y=>decide (x≤y)).toArray) os:=Any.slices_Sort_string Tryz.aeR blk off cap ss w hH hblk hsz
def Tryz.akK:Go.Shelf.Ren:=⟨fun|101=>223|208=>262|206=>273|n=>n,fun|9=>9|4=>4|3=>3|n=>n,fun|n=>n⟩
theorem Tryz.aq4:Go.Proofs.Lays.n101 Tryz.prog Tryz.akK:={
 mixed:=Ok
 f101:=Tryz.func223.trans (congrArg some Ok)
 f206:=Tryz.func273.trans (congrArg some Ok)
 f208:=Tryz.func262.trans (congrArg some Ok)
 t3:=Tryz.underlying3
 a3:=Tryz.isAgg3
 z3:=Tryz.sizeOf3
 v3:=Tryz.zeroValue3
 t4:=Tryz.underlying4
 a4:=Tryz.isAgg4
 z4:=Tryz.sizeOf4
 v4:=Tryz.zeroValue4
 t9:=Tryz.underlying9
 a9:=Tryz.isAgg9
 z9:=Tryz.sizeOf9
 v9:=Tryz.zeroValue9}
theorem Tryz.strings_TrimPrefix(s p:ByteArray)(w:World):
 Calls Tryz.prog 223 #[.string s,.string p] w fun e w'=>e= .returned (.string ⟨(Lib.trimPrefix s.data.toList p.data.toList).toArray⟩)∧w'=w:=Any.strings_TrimPrefix Tryz.aq4 s p w
def Tryz.abn:Go.Shelf.Ren:=⟨fun|105=>179|212=>231|99=>232|165=>233|166=>177|170=>234|169=>180|263=>271|264=>272|206=>273|240=>229|241=>274|276=>266|277=>305|n=>n,fun|9=>9|3=>3|4=>4|20=>20|0=>0|46=>208|109=>294|5=>5|72=>243|76=>246|51=>325|146=>326|53=>249|148=>328|70=>241|37=>192|75=>245|127=>298|164=>317|80=>177|n=>n,fun|n=>n⟩
theorem Tryz.aq2:Go.Proofs.Lays.n105 Tryz.prog Tryz.abn:={
 mixed:=Ok
 f99:=Tryz.func232.trans (congrArg some Ok)
 f105:=Tryz.func179.trans (congrArg some Ok)
 f165:=Tryz.func233.trans (congrArg some Ok)
 f166:=Tryz.func177.trans (congrArg some Ok)
 f169:=Tryz.func180.trans (congrArg some Ok)
 f170:=Tryz.func234.trans (congrArg some Ok)
 f206:=Tryz.func273.trans (congrArg some Ok)
 f212:=Tryz.func231.trans (congrArg some Ok)
 f240:=Tryz.func229.trans (congrArg some Ok)
 f241:=Tryz.func274.trans (congrArg some Ok)
 f263:=Tryz.func271.trans (congrArg some Ok)
 f264:=Tryz.func272.trans (congrArg some Ok)
 f276:=Tryz.func266.trans (congrArg some Ok)
 f277:=Tryz.func305.trans (congrArg some Ok)
 t0:=Tryz.underlying0
 a0:=Tryz.isAgg0
 z0:=Tryz.sizeOf0
 v0:=Tryz.zeroValue0
 t3:=Tryz.underlying3
 a3:=Tryz.isAgg3
 z3:=Tryz.sizeOf3
 v3:=Tryz.zeroValue3
 t4:=Tryz.underlying4
 a4:=Tryz.isAgg4
 z4:=Tryz.sizeOf4
 v4:=Tryz.zeroValue4
 t5:=Tryz.underlying5
 a5:=Tryz.isAgg5
 z5:=Tryz.sizeOf5
 v5:=Tryz.zeroValue5
 t9:=Tryz.underlying9
 a9:=Tryz.isAgg9
 z9:=Tryz.sizeOf9
 v9:=Tryz.zeroValue9
 t20:=Tryz.underlying20
 a20:=Tryz.isAgg20
 z20:=Tryz.sizeOf20
 v20:=Tryz.zeroValue20
 t37:=Tryz.underlying192
 a37:=Tryz.isAgg192
 z37:=Tryz.sizeOf192
 v37:=Tryz.zeroValue192
 t46:=Tryz.underlying208
 a46:=Tryz.isAgg208
 z46:=Tryz.sizeOf208
 v46:=Tryz.zeroValue208
 t51:=Tryz.underlying325
 a51:=Tryz.isAgg325
 z51:=Tryz.sizeOf325
 v51:=Tryz.zeroValue325
 t53:=Tryz.underlying249
 a53:=Tryz.isAgg249
 z53:=Tryz.sizeOf249
 v53:=Tryz.zeroValue249
 t70:=Tryz.underlying241
 a70:=Tryz.isAgg241
 z70:=Tryz.sizeOf241
 v70:=Tryz.zeroValue241
 t72:=Tryz.underlying243
 a72:=Tryz.isAgg243
 z72:=Tryz.sizeOf243
 v72:=Tryz.zeroValue243
 t75:=Tryz.underlying245
 a75:=Tryz.isAgg245
 z75:=Tryz.sizeOf245
 v75:=Tryz.zeroValue245
 t76:=Tryz.underlying246
 a76:=Tryz.isAgg246
 z76:=Tryz.sizeOf246
 v76:=Tryz.zeroValue246
 t109:=Tryz.underlying294
 a109:=Tryz.isAgg294
 z109:=Tryz.sizeOf294
 v109:=Tryz.zeroValue294
 t127:=Tryz.underlying298
 a127:=Tryz.isAgg298
 z127:=Tryz.sizeOf298
 v127:=Tryz.zeroValue298
 t146:=Tryz.underlying326
 a146:=Tryz.isAgg326
 z146:=Tryz.sizeOf326
 v146:=Tryz.zeroValue326
 t148:=Tryz.underlying328
 a148:=Tryz.isAgg328
 z148:=Tryz.sizeOf328
 v148:=Tryz.zeroValue328
 t164:=Tryz.underlying317
 a164:=Tryz.isAgg317
 z164:=Tryz.sizeOf317
 v164:=Tryz.zeroValue317}
theorem Tryz.ajw:Builder.Extra Tryz.prog Tryz.abn:={
 sizeBuilder:=Ok
 liesBuilder:=Ok
 t5:=Tryz.underlying5
 a5:=Tryz.isAgg5
 z5:=Tryz.sizeOf5
 v5:=Tryz.zeroValue5
 infoByte:=Ok
 cellsByte:=Ok
 sizeByte:=Ok
 neB5:=by decide}
theorem Tryz.strings_Repeat(s:ByteArray)(c:Nat)(w:World)(hc:c≤9223372036854775807)(hlen:s.size*c≤140737488355328):
 Calls Tryz.prog 179 #[.string s,.int .i64 c] w fun e w'=>e= .returned (.string ⟨(Lib.repeatL s.data.toList c).toArray⟩)∧Below w.heap.size w w':=Any.strings_Repeat Tryz.aq2 Tryz.ajw s c w hc hlen
def Tryz.akH:Go.Shelf.Ren:=⟨fun|108=>236|n=>n,fun|28=>22|3=>3|0=>0|4=>4|n=>n,fun|n=>n⟩
theorem Tryz.aq1:Go.Proofs.Lays.n108 Tryz.prog Tryz.akH:={
 mixed:=Ok
 f108:=Tryz.func236.trans (congrArg some Ok)
 t0:=Tryz.underlying0
 a0:=Tryz.isAgg0
 z0:=Tryz.sizeOf0
 v0:=Tryz.zeroValue0
 t3:=Tryz.underlying3
 a3:=Tryz.isAgg3
 z3:=Tryz.sizeOf3
 v3:=Tryz.zeroValue3
 t4:=Tryz.underlying4
 a4:=Tryz.isAgg4
 z4:=Tryz.sizeOf4
 v4:=Tryz.zeroValue4
 t28:=Tryz.underlying22
 a28:=Tryz.isAgg22
 z28:=Tryz.sizeOf22
 v28:=Tryz.zeroValue22}
theorem Tryz.slices_Index_int(b off n c:Nat)(zs:List Int)(x:Int)(w:World)(hz:n≤zs.length)(LD:n≤9223372036854775807)(hc:∀j,j<zs.length→w.cell? ⟨b,off+j,none⟩=some (.int .i64 (zs.getD j 0))):
 Calls Tryz.prog 236 #[.slice (some ⟨b,off,none⟩) n c,.int .i64 x] w fun e w'=>e= .returned (.int .i64 (Lib.idxOf (zs.take n) x))∧w'=w:=Any.slices_Index_int Tryz.aq1 b off n c zs x w hz LD hc
def Tryz.akI:Go.Shelf.Ren:=⟨fun|107=>182|108=>236|n=>n,fun|28=>22|3=>3|4=>4|0=>0|n=>n,fun|n=>n⟩
theorem Tryz.aeT:Go.Proofs.Lays.n107 Tryz.prog Tryz.akI:={
 mixed:=Ok
 f107:=Tryz.func182.trans (congrArg some Ok)
 f108:=Tryz.func236.trans (congrArg some Ok)
 t0:=Tryz.underlying0
 a0:=Tryz.isAgg0
 z0:=Tryz.sizeOf0
 v0:=Tryz.zeroValue0
 t3:=Tryz.underlying3
 a3:=Tryz.isAgg3
 z3:=Tryz.sizeOf3
 v3:=Tryz.zeroValue3
 t4:=Tryz.underlying4
 a4:=Tryz.isAgg4
 z4:=Tryz.sizeOf4
 v4:=Tryz.zeroValue4
 t28:=Tryz.underlying22
 a28:=Tryz.isAgg22
 z28:=Tryz.sizeOf22
 v28:=Tryz.zeroValue22}
theorem Tryz.slices_Contains_int(b off n c:Nat)(zs:List Int)(x:Int)(w:World)(hz:n≤zs.length)(LD:n≤9223372036854775807)(hc:∀j,j<zs.length→w.cell? ⟨b,off+j,none⟩=some (.int .i64 (zs.getD j 0))):
 Calls Tryz.prog 182 #[.slice (some ⟨b,off,none⟩) n c,.int .i64 x] w fun e w'=>e= .returned (.bool ((zs.take n).contains x))∧w'=w:=Any.slices_Contains_int Tryz.aeT b off n c zs x w hz LD hc
theorem Tryz.slices_Contains_int_empty(a:Option Addr)(c:Nat)(x:Int)(w:World):
 Calls Tryz.prog 182 #[.slice a 0 c,.int .i64 x] w fun e w'=>e= .returned (.bool false)∧w'=w:=Any.slices_Contains_int_empty Tryz.aeT a c x w
def Tryz.akG:Go.Shelf.Ren:=⟨fun|110=>218|109=>260|n=>n,fun|31=>39|9=>9|4=>4|3=>3|0=>0|n=>n,fun|n=>n⟩
theorem Tryz.aq0:Go.Proofs.Lays.n110 Tryz.prog Tryz.akG:={
 mixed:=Ok
 f109:=Tryz.func260.trans (congrArg some Ok)
 f110:=Tryz.func218.trans (congrArg some Ok)
 t0:=Tryz.underlying0
 a0:=Tryz.isAgg0
 z0:=Tryz.sizeOf0
 v0:=Tryz.zeroValue0
 t3:=Tryz.underlying3
 a3:=Tryz.isAgg3
 z3:=Tryz.sizeOf3
 v3:=Tryz.zeroValue3
 t4:=Tryz.underlying4
 a4:=Tryz.isAgg4
 z4:=Tryz.sizeOf4
 v4:=Tryz.zeroValue4
 t9:=Tryz.underlying9
 a9:=Tryz.isAgg9
 z9:=Tryz.sizeOf9
 v9:=Tryz.zeroValue9
 t31:=Tryz.underlying39
 a31:=Tryz.isAgg39
 z31:=Tryz.sizeOf39
 v31:=Tryz.zeroValue39}
theorem Tryz.slices_Contains_string(b off n c:Nat)(zs:List ByteArray)(x:ByteArray)(w:World)(hz:n≤zs.length)(LD:n≤9223372036854775807)(hc:∀j,j<zs.length→w.cell? ⟨b,off+j,none⟩=some (.string (zs.getD j ByteArray.empty))):
 Calls Tryz.prog 218 #[.slice (some ⟨b,off,none⟩) n c,.string x] w fun e w'=>e= .returned (.bool (Lib.containsS (zs.take n) x))∧w'=w:=Any.slices_Contains_string Tryz.aq0 b off n c zs x w hz LD hc
open Go.Sort in
theorem Tryz.slices_Sort_string_none(p:Option Addr)(cap:Nat)(w:World):
 Calls Tryz.prog 248 #[.slice p 0 cap] w fun e w'=>e= .returned (.tuple #[])∧w'=w:=Any.slices_Sort_string_none Tryz.aeR p cap w
end Go.Proofs
