/- Contracts of Go's library, laid by the kit's tool. -/
import Derived.Shelf.Strings.Builder1
import Derived.Shelf.Strings.Builder2
import Derived.Shelf.Small.Bits
import Derived.Shelf.Small.Wraps
import Derived.Shelf.Strings.BuilderF
import Derived.Shelf.Strings.BuilderK
import Derived.Shelf.Strconv.Itoa0
import Derived.Shelf.Strconv.Itoa1
import Derived.Shelf.LaysM
import Derived.Shelf.Strconv.Itoa2
import Derived.Shelf.Strconv.Itoa3
import Derived.Ground.MpProg
import Derived.Shelf.Pu.ParseUintPublic10
import Derived.Shelf.Strings.Search1
import Derived.Shelf.Strings.Search2
import Derived.Shelf.Strings.Cut
import Derived.Shelf.Sort.Plain
import Derived.Shelf.Strings.Prefix
import Derived.Shelf.Bits.Mul64
import Derived.Shelf.Strings.Repeat
import Derived.Shelf.Slices.Turned
import Derived.Ground.Names2Prog
import Derived.Shelf.Slices.Clone
import Derived.Shelf.Slices.CompactS
import Derived.Shelf.Slices.In.SortNone
import Derived.Test.YtadbchhdjbghkaaGreatDoorProg
open Go.Shelf
namespace Go.Proofs
open Go.RowKit Go.Lib
theorem Oe{p:Prop}(h:p:=by (first|(intro h;cases h;done)|(intro _ h;cases h;done)|(intro _ _ h;cases h;done)|(intros;rename_i h;cases h))):p:=h
theorem On{p:Prop}(h:p:=by go_num):p:=h
theorem Om{p:Prop}(h:p:=by omega):p:=h
theorem Od{p:Prop}(h:p:=by decide):p:=h
theorem Ok{p:Prop}(h:p:=by kernel_rfl):p:=h
theorem Ou{p:Prop}(h:p:=by simp):p:=h
theorem Oc{p:Prop}(h:p:=by (simp;omega)):p:=h
theorem Oz{p:Prop}(h:p:=by (simp [Go.RowKit.intOf];omega)):p:=h
def Tryz.ZG:Go.Shelf.Ren:=⟨fun|169=>172|n=>n,fun|70=>237|9=>9|0=>0|72=>239|37=>156|127=>281|3=>3|5=>5|n=>n,fun|n=>n⟩
theorem Tryz.ac9:Go.Proofs.Lays.n169 Tryz.prog Tryz.ZG:={
 mixed:=Ok
 f169:=Tryz.func172.trans (congrArg some Ok)
 t0:=Tryz.underlying0
 a0:=Tryz.isAgg0
 z0:=Tryz.sizeOf0
 v0:=Tryz.zeroValue0
 t3:=Tryz.underlying3
 a3:=Tryz.isAgg3
 z3:=Tryz.sizeOf3
 v3:=Tryz.zeroValue3
 t9:=Tryz.underlying9
 a9:=Tryz.isAgg9
 z9:=Tryz.sizeOf9
 v9:=Tryz.zeroValue9
 t37:=Tryz.underlying156
 a37:=Tryz.isAgg156
 z37:=Tryz.sizeOf156
 v37:=Tryz.zeroValue156
 t70:=Tryz.underlying237
 a70:=Tryz.isAgg237
 z70:=Tryz.sizeOf237
 v70:=Tryz.zeroValue237
 t72:=Tryz.underlying239
 a72:=Tryz.isAgg239
 z72:=Tryz.sizeOf239
 v72:=Tryz.zeroValue239
 t127:=Tryz.underlying281
 a127:=Tryz.isAgg281
 z127:=Tryz.sizeOf281
 v127:=Tryz.zeroValue281}
theorem Tryz.AA:Builder.Extra Tryz.prog Tryz.ZG:={
 sizeBuilder:=Ok
 liesBuilder:=Ok
 t5:=Tryz.underlying5
 a5:=Tryz.isAgg5
 z5:=Tryz.sizeOf5
 v5:=Tryz.zeroValue5
 infoByte:=Ok
 cellsByte:=Ok
 sizeByte:=Ok
 neB5:=by decide}
theorem Tryz.Builder_String_any(B b:Nat)(l:List UInt8)(w:World)(h:Lib.IsBuilder 239 5 B b (Lib.byteCells l) w)(Wo:B≤w.heap.size):
 Calls Tryz.prog 172 #[.pointer (some ⟨b,0,none⟩)] w fun e w'=>e= .returned (.string ⟨l.toArray⟩)∧Below B w w':=Any.Builder_String_any Tryz.ac9 Tryz.AA B b l w h Wo
def Tryz.at4:Go.Shelf.Ren:=⟨fun|210=>203|206=>239|n=>n,fun|9=>9|4=>4|3=>3|n=>n,fun|n=>n⟩
def Tryz.ain:Go.Shelf.Ren:=⟨fun|103=>151|210=>203|206=>239|n=>n,fun|9=>9|4=>4|24=>217|3=>3|n=>n,fun|n=>n⟩
theorem Tryz.aoB:Go.Proofs.Lays.n103 Tryz.prog Tryz.ain:={
 mixed:=Ok
 f103:=Tryz.func151.trans (congrArg some Ok)
 f206:=Tryz.func239.trans (congrArg some Ok)
 f210:=Tryz.func203.trans (congrArg some Ok)
 t3:=Tryz.underlying3
 a3:=Tryz.isAgg3
 z3:=Tryz.sizeOf3
 v3:=Tryz.zeroValue3
 t4:=Tryz.underlying4
 a4:=Tryz.isAgg4
 z4:=Tryz.sizeOf4
 v4:=Tryz.zeroValue4
 t9:=Tryz.underlying9
 a9:=Tryz.isAgg9
 z9:=Tryz.sizeOf9
 v9:=Tryz.zeroValue9
 t24:=Tryz.underlying217
 a24:=Tryz.isAgg217
 z24:=Tryz.sizeOf217
 v24:=Tryz.zeroValue217}
theorem Tryz.strings_CutPrefix(s p:ByteArray)(w:World):
 Calls Tryz.prog 151 #[.string s,.string p] w fun e w'=>e= .returned (.tuple #[.string ⟨(Lib.trimPrefix s.data.toList p.data.toList).toArray⟩,.bool (Lib.hasPrefix s.data.toList p.data.toList)])∧w'=w:=Any.strings_CutPrefix Tryz.aoB s p w
theorem Tryz.Builder_String_any_k(B b:Nat)(l:List UInt8)(w:World)(h:Lib.IsBuilderF 239 5 B b (Lib.byteCells l) w)(Wo:B≤w.heap.size):
 Calls Tryz.prog 172 #[.pointer (some ⟨b,0,none⟩)] w fun e w'=>e= .returned (.string ⟨l.toArray⟩)∧(Lib.IsBuilderF 239 5 B b (Lib.byteCells l) w'∧Below B w w'∧Lib.OthersKept 5 (some b) w w'):=Any.Builder_String_any_k Tryz.ac9 Tryz.AA B b l w h Wo
def Tryz.aig:Go.Shelf.Ren:=⟨fun|283=>252|n=>n,fun|3=>3|9=>9|4=>4|n=>n,fun|n=>n⟩
theorem Tryz.aow:Go.Proofs.Lays.n283 Tryz.prog Tryz.aig:={
 mixed:=Ok
 f283:=Tryz.func252.trans (congrArg some Ok)
 t3:=Tryz.underlying3
 a3:=Tryz.isAgg3
 z3:=Tryz.sizeOf3
 v3:=Tryz.zeroValue3
 t4:=Tryz.underlying4
 a4:=Tryz.isAgg4
 z4:=Tryz.sizeOf4
 v4:=Tryz.zeroValue4
 t9:=Tryz.underlying9
 a9:=Tryz.isAgg9
 z9:=Tryz.sizeOf9
 v9:=Tryz.zeroValue9}
theorem Tryz.internal_strconv_small(i:Nat)(h:i<100)(w:World):
 Calls Tryz.prog 252 #[.int .i64 i] w fun e w'=>e= .returned (.string ⟨(Lib.decDigits i).toArray⟩)∧w'=w:=Any.internal_strconv_small Tryz.aow i h w
def Tryz.ahL:Go.Shelf.Ren:=⟨fun|284=>253|129=>280|317=>279|318=>281|n=>n,fun|53=>209|3=>3|212=>330|0=>0|4=>4|46=>191|5=>5|9=>9|n=>n,fun|17=>3|n=>n⟩
theorem Tryz.amY:Go.Proofs.LaysM.n284 Tryz.prog Tryz.ahL:={
 mixed:=Ok
 f129:=Tryz.func280.trans (congrArg some Ok)
 f284:=Tryz.func253.trans (congrArg some Ok)
 f317:=Tryz.func279.trans (congrArg some Ok)
 f318:=Tryz.func281.trans (congrArg some Ok)
 t0:=Tryz.underlying0
 a0:=Tryz.isAgg0
 z0:=Tryz.sizeOf0
 v0:=Tryz.zeroValue0
 t3:=Tryz.underlying3
 a3:=Tryz.isAgg3
 z3:=Tryz.sizeOf3
 v3:=Tryz.zeroValue3
 t4:=Tryz.underlying4
 a4:=Tryz.isAgg4
 z4:=Tryz.sizeOf4
 v4:=Tryz.zeroValue4
 t5:=Tryz.underlying5
 a5:=Tryz.isAgg5
 z5:=Tryz.sizeOf5
 v5:=Tryz.zeroValue5
 t9:=Tryz.underlying9
 a9:=Tryz.isAgg9
 z9:=Tryz.sizeOf9
 v9:=Tryz.zeroValue9
 t46:=Tryz.underlying191
 a46:=Tryz.isAgg191
 z46:=Tryz.sizeOf191
 v46:=Tryz.zeroValue191
 t53:=Tryz.underlying209
 a53:=Tryz.isAgg209
 z53:=Tryz.sizeOf209
 v53:=Tryz.zeroValue209
 t212:=Tryz.underlying330
 a212:=Tryz.isAgg330
 z212:=Tryz.sizeOf330
 v212:=Tryz.zeroValue330
 g17:=Ok
 i0:=Ok
 i3:=Ok
 i4:=Ok
 i5:=Ok
 i9:=Ok
 i46:=Ok
 i53:=Ok
 i212:=Ok
 m17:=by kernel_rfl}
theorem Tryz.internal_strconv_numDigits(u:Nat)(h1:1≤u)(h2:u<18446744073709551616)(w:World)(arK:Lib.TabIs Tryz.prog w "internal/strconv.uint64pow10" .u64 Lib.pow10Tab):
 Calls Tryz.prog 253 #[.int .u64 u] w fun e w'=>e= .returned (.int .i64 (Lib.nDigits u))∧w'=w:=Any.internal_strconv_numDigits Tryz.amY u h1 h2 w arK
def Tryz.aif:Go.Shelf.Ren:=⟨fun|285=>254|n=>n,fun|37=>156|53=>209|3=>3|4=>4|51=>313|9=>9|5=>5|0=>0|n=>n,fun|n=>n⟩
theorem Tryz.aov:Go.Proofs.Lays.n285 Tryz.prog Tryz.aif:={
 mixed:=Ok
 f285:=Tryz.func254.trans (congrArg some Ok)
 t0:=Tryz.underlying0
 a0:=Tryz.isAgg0
 z0:=Tryz.sizeOf0
 v0:=Tryz.zeroValue0
 t3:=Tryz.underlying3
 a3:=Tryz.isAgg3
 z3:=Tryz.sizeOf3
 v3:=Tryz.zeroValue3
 t4:=Tryz.underlying4
 a4:=Tryz.isAgg4
 z4:=Tryz.sizeOf4
 v4:=Tryz.zeroValue4
 t5:=Tryz.underlying5
 a5:=Tryz.isAgg5
 z5:=Tryz.sizeOf5
 v5:=Tryz.zeroValue5
 t9:=Tryz.underlying9
 a9:=Tryz.isAgg9
 z9:=Tryz.sizeOf9
 v9:=Tryz.zeroValue9
 t37:=Tryz.underlying156
 a37:=Tryz.isAgg156
 z37:=Tryz.sizeOf156
 v37:=Tryz.zeroValue156
 t51:=Tryz.underlying313
 a51:=Tryz.isAgg313
 z51:=Tryz.sizeOf313
 v51:=Tryz.zeroValue313
 t53:=Tryz.underlying209
 a53:=Tryz.isAgg209
 z53:=Tryz.sizeOf209
 v53:=Tryz.zeroValue209}
open Go.Sort in
theorem Tryz.internal_strconv_formatBase10(blk off cap:Nat)(u:Nat)(d:Array UInt8)(w:World)(hH:Holds (fun(b:UInt8)=>Value.int .u8 (b.toNat:Int)) w blk off d)(hu:u<10^d.size)(arJ:u<18446744073709551616)(hsz:d.size<4611686018427387904):
 Calls Tryz.prog 254 #[.slice (some ⟨blk,off,none⟩) d.size cap,.int .u64 u] w fun e w'=>
  e= .returned (.tuple #[])∧∃(n v':Nat) (dk:Array UInt8),w'=(putRow (fun(b:UInt8)=>Value.int .u8 (b.toNat:Int)) w blk off dk).drewN n∧FmtInv d.size u 0 v' dk:=Any.internal_strconv_formatBase10 Tryz.aov blk off cap u d w hH hu arJ hsz
def Tryz.ahK:Go.Shelf.Ren:=⟨fun|14=>152|16=>204|17=>205|19=>246|20=>247|21=>248|22=>249|23=>250|24=>251|25=>276|27=>278|26=>277|28=>298|29=>306|30=>252|31=>253|32=>254|33=>255|35=>280|34=>279|36=>281|37=>282|38=>283|39=>299|40=>300|n=>n,fun|9=>9|3=>3|22=>209|24=>220|25=>221|4=>4|34=>299|5=>5|36=>191|37=>156|0=>0|39=>301|21=>21|44=>327|47=>281|50=>344|48=>342|2=>2|52=>305|55=>308|59=>330|60=>313|20=>20|61=>331|65=>351|66=>352|67=>99|n=>n,fun|0=>1|1=>2|2=>3|3=>4|4=>5|n=>n⟩
theorem Tryz.amX:Go.Proofs.LaysPu.n14 Tryz.prog Tryz.ahK:={
 mixed:=Ok
 f14:=Tryz.func152.trans (congrArg some Ok)
 f16:=Tryz.func204.trans (congrArg some Ok)
 f17:=Tryz.func205.trans (congrArg some Ok)
 f19:=Tryz.func246.trans (congrArg some Ok)
 f20:=Tryz.func247.trans (congrArg some Ok)
 f21:=Tryz.func248.trans (congrArg some Ok)
 f22:=Tryz.func249.trans (congrArg some Ok)
 f23:=Tryz.func250.trans (congrArg some Ok)
 f24:=Tryz.func251.trans (congrArg some Ok)
 f25:=Tryz.func276.trans (congrArg some Ok)
 f26:=Tryz.func277.trans (congrArg some Ok)
 f27:=Tryz.func278.trans (congrArg some Ok)
 f28:=Tryz.func298.trans (congrArg some Ok)
 f29:=Tryz.func306.trans (congrArg some Ok)
 f30:=Tryz.func252.trans (congrArg some Ok)
 f31:=Tryz.func253.trans (congrArg some Ok)
 f32:=Tryz.func254.trans (congrArg some Ok)
 f33:=Tryz.func255.trans (congrArg some Ok)
 f34:=Tryz.func279.trans (congrArg some Ok)
 f35:=Tryz.func280.trans (congrArg some Ok)
 f36:=Tryz.func281.trans (congrArg some Ok)
 f37:=Tryz.func282.trans (congrArg some Ok)
 f38:=Tryz.func283.trans (congrArg some Ok)
 f39:=Tryz.func299.trans (congrArg some Ok)
 f40:=Tryz.func300.trans (congrArg some Ok)
 t0:=Tryz.underlying0
 a0:=Tryz.isAgg0
 z0:=Tryz.sizeOf0
 v0:=Tryz.zeroValue0
 i0:=Ok
 t2:=Tryz.underlying2
 a2:=Tryz.isAgg2
 z2:=Tryz.sizeOf2
 v2:=Tryz.zeroValue2
 i2:=Ok
 t3:=Tryz.underlying3
 a3:=Tryz.isAgg3
 z3:=Tryz.sizeOf3
 v3:=Tryz.zeroValue3
 i3:=Ok
 t4:=Tryz.underlying4
 a4:=Tryz.isAgg4
 z4:=Tryz.sizeOf4
 v4:=Tryz.zeroValue4
 i4:=Ok
 t5:=Tryz.underlying5
 a5:=Tryz.isAgg5
 z5:=Tryz.sizeOf5
 v5:=Tryz.zeroValue5
 i5:=Ok
 t9:=Tryz.underlying9
 a9:=Tryz.isAgg9
 z9:=Tryz.sizeOf9
 v9:=Tryz.zeroValue9
 i9:=Ok
 t20:=Tryz.underlying20
 a20:=Tryz.isAgg20
 z20:=Tryz.sizeOf20
 v20:=Tryz.zeroValue20
 i20:=Ok
 t21:=Tryz.underlying21
 a21:=Tryz.isAgg21
 z21:=Tryz.sizeOf21
 v21:=Tryz.zeroValue21
 i21:=Ok
 t22:=Tryz.underlying209
 a22:=Tryz.isAgg209
 z22:=Tryz.sizeOf209
 v22:=Tryz.zeroValue209
 i22:=Ok
 t24:=Tryz.underlying220
 a24:=Tryz.isAgg220
 z24:=Tryz.sizeOf220
 v24:=Tryz.zeroValue220
 i24:=Ok
 t25:=Tryz.underlying221
 a25:=Tryz.isAgg221
 z25:=Tryz.sizeOf221
 v25:=Tryz.zeroValue221
 i25:=Ok
 t34:=Tryz.underlying299
 a34:=Tryz.isAgg299
 z34:=Tryz.sizeOf299
 v34:=Tryz.zeroValue299
 i34:=Ok
 c34:=Ok
 t36:=Tryz.underlying191
 a36:=Tryz.isAgg191
 z36:=Tryz.sizeOf191
 v36:=Tryz.zeroValue191
 i36:=Ok
 t37:=Tryz.underlying156
 a37:=Tryz.isAgg156
 z37:=Tryz.sizeOf156
 v37:=Tryz.zeroValue156
 i37:=Ok
 t39:=Tryz.underlying301
 a39:=Tryz.isAgg301
 z39:=Tryz.sizeOf301
 v39:=Tryz.zeroValue301
 i39:=Ok
 t44:=Tryz.underlying327
 a44:=Tryz.isAgg327
 z44:=Tryz.sizeOf327
 v44:=Tryz.zeroValue327
 i44:=Ok
 t47:=Tryz.underlying281
 a47:=Tryz.isAgg281
 z47:=Tryz.sizeOf281
 v47:=Tryz.zeroValue281
 i47:=Ok
 t48:=Tryz.underlying342
 a48:=Tryz.isAgg342
 z48:=Tryz.sizeOf342
 v48:=Tryz.zeroValue342
 i48:=Ok
 t50:=Tryz.underlying344
 a50:=Tryz.isAgg344
 z50:=Tryz.sizeOf344
 v50:=Tryz.zeroValue344
 i50:=Ok
 t52:=Tryz.underlying305
 a52:=Tryz.isAgg305
 z52:=Tryz.sizeOf305
 v52:=Tryz.zeroValue305
 i52:=Ok
 t55:=Tryz.underlying308
 a55:=Tryz.isAgg308
 z55:=Tryz.sizeOf308
 v55:=Tryz.zeroValue308
 i55:=Ok
 t59:=Tryz.underlying330
 a59:=Tryz.isAgg330
 z59:=Tryz.sizeOf330
 v59:=Tryz.zeroValue330
 i59:=Ok
 t60:=Tryz.underlying313
 a60:=Tryz.isAgg313
 z60:=Tryz.sizeOf313
 v60:=Tryz.zeroValue313
 i60:=Ok
 t61:=Tryz.underlying331
 a61:=Tryz.isAgg331
 z61:=Tryz.sizeOf331
 t65:=Tryz.underlying351
 a65:=Tryz.isAgg351
 z65:=Tryz.sizeOf351
 v65:=Tryz.zeroValue351
 i65:=Ok
 t66:=Tryz.underlying352
 a66:=Tryz.isAgg352
 z66:=Tryz.sizeOf352
 v66:=Tryz.zeroValue352
 i66:=Ok
 t67:=Tryz.underlying99
 a67:=Tryz.isAgg99
 z67:=Tryz.sizeOf99
 v67:=Tryz.zeroValue99
 i67:=Ok
 g0:=Ok
 m0:=Ok
 g1:=Ok
 m1:=Ok
 g2:=Ok
 m2:=Ok
 g3:=Ok
 m3:=Ok
 g4:=Ok
 m4:=by kernel_rfl}
theorem Tryz.strconv_ParseUint_10_at64_ok(s:ByteArray)(Nt:s.size≤9223372036854775806)(u:Nat)(h:Lib.parseUintB 64 s.data.toList= .ok u)(w:World):
 Calls Tryz.prog 152 #[.string s,.int .i64 10,.int .i64 64] w fun e w'=>e= .returned (.tuple #[.int .u64 u,.nilIface])∧(w'=w∨w'=Lib.bytesWorld w 5 s):=Any.strconv_ParseUint_10_at64_ok Tryz.amX s Nt u h w
def Tryz.aih:Go.Shelf.Ren:=⟨fun|217=>242|266=>274|n=>n,fun|9=>9|5=>5|3=>3|n=>n,fun|n=>n⟩
theorem Tryz.aox:Go.Proofs.Lays.n217 Tryz.prog Tryz.aih:={
 mixed:=Ok
 f217:=Tryz.func242.trans (congrArg some Ok)
 f266:=Tryz.func274.trans (congrArg some Ok)
 t3:=Tryz.underlying3
 a3:=Tryz.isAgg3
 z3:=Tryz.sizeOf3
 v3:=Tryz.zeroValue3
 t5:=Tryz.underlying5
 a5:=Tryz.isAgg5
 z5:=Tryz.sizeOf5
 v5:=Tryz.zeroValue5
 t9:=Tryz.underlying9
 a9:=Tryz.isAgg9
 z9:=Tryz.sizeOf9
 v9:=Tryz.zeroValue9}
theorem Tryz.stringslite_IndexByte(s:ByteArray)(c:Int)(w:World):
 Calls Tryz.prog 242 #[.string s,.int .u8 c] w fun e w'=>e= .returned (.int .i64 (Lib.indexByte s.data.toList c.toNat.toUInt8))∧w'=w:=Any.stringslite_IndexByte Tryz.aox s c w
def Tryz.aij:Go.Shelf.Ren:=⟨fun|190=>227|125=>264|258=>263|128=>295|129=>280|302=>286|303=>287|304=>288|305=>289|306=>290|307=>291|308=>292|309=>293|310=>294|333=>301|329=>302|330=>303|334=>304|335=>305|336=>285|344=>307|n=>n,fun|31=>44|9=>9|3=>3|46=>191|0=>0|51=>313|53=>209|4=>4|183=>335|182=>334|131=>166|5=>5|218=>345|222=>348|228=>353|229=>354|n=>n,fun|n=>n⟩
theorem Tryz.ac8:Go.Proofs.Lays.n190 Tryz.prog Tryz.aij:={
 mixed:=Ok
 f125:=Tryz.func264.trans (congrArg some Ok)
 f128:=Tryz.func295.trans (congrArg some Ok)
 f129:=Tryz.func280.trans (congrArg some Ok)
 f190:=Tryz.func227.trans (congrArg some Ok)
 f258:=Tryz.func263.trans (congrArg some Ok)
 f302:=Tryz.func286.trans (congrArg some Ok)
 f303:=Tryz.func287.trans (congrArg some Ok)
 f304:=Tryz.func288.trans (congrArg some Ok)
 f305:=Tryz.func289.trans (congrArg some Ok)
 f306:=Tryz.func290.trans (congrArg some Ok)
 f307:=Tryz.func291.trans (congrArg some Ok)
 f308:=Tryz.func292.trans (congrArg some Ok)
 f309:=Tryz.func293.trans (congrArg some Ok)
 f310:=Tryz.func294.trans (congrArg some Ok)
 f329:=Tryz.func302.trans (congrArg some Ok)
 f330:=Tryz.func303.trans (congrArg some Ok)
 f333:=Tryz.func301.trans (congrArg some Ok)
 f334:=Tryz.func304.trans (congrArg some Ok)
 f335:=Tryz.func305.trans (congrArg some Ok)
 f336:=Tryz.func285.trans (congrArg some Ok)
 f344:=Tryz.func307.trans (congrArg some Ok)
 t0:=Tryz.underlying0
 a0:=Tryz.isAgg0
 z0:=Tryz.sizeOf0
 v0:=Tryz.zeroValue0
 t3:=Tryz.underlying3
 a3:=Tryz.isAgg3
 z3:=Tryz.sizeOf3
 v3:=Tryz.zeroValue3
 t4:=Tryz.underlying4
 a4:=Tryz.isAgg4
 z4:=Tryz.sizeOf4
 v4:=Tryz.zeroValue4
 t5:=Tryz.underlying5
 a5:=Tryz.isAgg5
 z5:=Tryz.sizeOf5
 v5:=Tryz.zeroValue5
 t9:=Tryz.underlying9
 a9:=Tryz.isAgg9
 z9:=Tryz.sizeOf9
 v9:=Tryz.zeroValue9
 t31:=Tryz.underlying44
 a31:=Tryz.isAgg44
 z31:=Tryz.sizeOf44
 v31:=Tryz.zeroValue44
 t46:=Tryz.underlying191
 a46:=Tryz.isAgg191
 z46:=Tryz.sizeOf191
 v46:=Tryz.zeroValue191
 t51:=Tryz.underlying313
 a51:=Tryz.isAgg313
 z51:=Tryz.sizeOf313
 v51:=Tryz.zeroValue313
 t53:=Tryz.underlying209
 a53:=Tryz.isAgg209
 z53:=Tryz.sizeOf209
 v53:=Tryz.zeroValue209
 t131:=Tryz.underlying166
 a131:=Tryz.isAgg166
 z131:=Tryz.sizeOf166
 v131:=Tryz.zeroValue166
 t182:=Tryz.underlying334
 a182:=Tryz.isAgg334
 z182:=Tryz.sizeOf334
 v182:=Tryz.zeroValue334
 t183:=Tryz.underlying335
 a183:=Tryz.isAgg335
 z183:=Tryz.sizeOf335
 v183:=Tryz.zeroValue335
 t218:=Tryz.underlying345
 a218:=Tryz.isAgg345
 z218:=Tryz.sizeOf345
 v218:=Tryz.zeroValue345
 t222:=Tryz.underlying348
 a222:=Tryz.isAgg348
 z222:=Tryz.sizeOf348
 v222:=Tryz.zeroValue348
 t228:=Tryz.underlying353
 a228:=Tryz.isAgg353
 z228:=Tryz.sizeOf353
 v228:=Tryz.zeroValue353
 t229:=Tryz.underlying354
 a229:=Tryz.isAgg354
 z229:=Tryz.sizeOf354
 v229:=Tryz.zeroValue354}
open Go.Sort in
theorem Tryz.slices_Sort_string(blk off cap:Nat)(ss:List (List UInt8))(w:World)(hH:Holds encStr w blk off ss.toArray)(hblk:blk<w.heap.size)(hsz:ss.length<4611686018427387904):
 Calls Tryz.prog 227 #[.slice (some ⟨blk,off,none⟩) ss.length cap] w fun e w'=>
  e= .returned (.tuple #[])∧∃n os,w'=grow (putRow encStr (Sort.ahead w n) blk off (ss.mergeSort fun x y=>decide (x≤y)).toArray) os:=Any.slices_Sort_string Tryz.ac8 blk off cap ss w hH hblk hsz
def Tryz.aio:Go.Shelf.Ren:=⟨fun|101=>141|208=>198|206=>239|n=>n,fun|9=>9|4=>4|3=>3|n=>n,fun|n=>n⟩
theorem Tryz.aoC:Go.Proofs.Lays.n101 Tryz.prog Tryz.aio:={
 mixed:=Ok
 f101:=Tryz.func141.trans (congrArg some Ok)
 f206:=Tryz.func239.trans (congrArg some Ok)
 f208:=Tryz.func198.trans (congrArg some Ok)
 t3:=Tryz.underlying3
 a3:=Tryz.isAgg3
 z3:=Tryz.sizeOf3
 v3:=Tryz.zeroValue3
 t4:=Tryz.underlying4
 a4:=Tryz.isAgg4
 z4:=Tryz.sizeOf4
 v4:=Tryz.zeroValue4
 t9:=Tryz.underlying9
 a9:=Tryz.isAgg9
 z9:=Tryz.sizeOf9
 v9:=Tryz.zeroValue9}
theorem Tryz.strings_TrimPrefix(s p:ByteArray)(w:World):
 Calls Tryz.prog 141 #[.string s,.string p] w fun e w'=>e= .returned (.string ⟨(Lib.trimPrefix s.data.toList p.data.toList).toArray⟩)∧w'=w:=Any.strings_TrimPrefix Tryz.aoC s p w
def Tryz.ZH:Go.Shelf.Ren:=⟨fun|105=>171|212=>213|99=>214|165=>215|166=>170|170=>216|169=>172|263=>258|264=>259|206=>239|240=>212|241=>260|276=>257|277=>284|n=>n,fun|9=>9|3=>3|4=>4|20=>20|0=>0|46=>191|109=>277|5=>5|72=>239|76=>240|51=>313|146=>314|53=>209|148=>316|70=>237|37=>156|75=>220|127=>281|164=>311|80=>99|n=>n,fun|n=>n⟩
theorem Tryz.aoA:Go.Proofs.Lays.n105 Tryz.prog Tryz.ZH:={
 mixed:=Ok
 f99:=Tryz.func214.trans (congrArg some Ok)
 f105:=Tryz.func171.trans (congrArg some Ok)
 f165:=Tryz.func215.trans (congrArg some Ok)
 f166:=Tryz.func170.trans (congrArg some Ok)
 f169:=Tryz.func172.trans (congrArg some Ok)
 f170:=Tryz.func216.trans (congrArg some Ok)
 f206:=Tryz.func239.trans (congrArg some Ok)
 f212:=Tryz.func213.trans (congrArg some Ok)
 f240:=Tryz.func212.trans (congrArg some Ok)
 f241:=Tryz.func260.trans (congrArg some Ok)
 f263:=Tryz.func258.trans (congrArg some Ok)
 f264:=Tryz.func259.trans (congrArg some Ok)
 f276:=Tryz.func257.trans (congrArg some Ok)
 f277:=Tryz.func284.trans (congrArg some Ok)
 t0:=Tryz.underlying0
 a0:=Tryz.isAgg0
 z0:=Tryz.sizeOf0
 v0:=Tryz.zeroValue0
 t3:=Tryz.underlying3
 a3:=Tryz.isAgg3
 z3:=Tryz.sizeOf3
 v3:=Tryz.zeroValue3
 t4:=Tryz.underlying4
 a4:=Tryz.isAgg4
 z4:=Tryz.sizeOf4
 v4:=Tryz.zeroValue4
 t5:=Tryz.underlying5
 a5:=Tryz.isAgg5
 z5:=Tryz.sizeOf5
 v5:=Tryz.zeroValue5
 t9:=Tryz.underlying9
 a9:=Tryz.isAgg9
 z9:=Tryz.sizeOf9
 v9:=Tryz.zeroValue9
 t20:=Tryz.underlying20
 a20:=Tryz.isAgg20
 z20:=Tryz.sizeOf20
 v20:=Tryz.zeroValue20
 t37:=Tryz.underlying156
 a37:=Tryz.isAgg156
 z37:=Tryz.sizeOf156
 v37:=Tryz.zeroValue156
 t46:=Tryz.underlying191
 a46:=Tryz.isAgg191
 z46:=Tryz.sizeOf191
 v46:=Tryz.zeroValue191
 t51:=Tryz.underlying313
 a51:=Tryz.isAgg313
 z51:=Tryz.sizeOf313
 v51:=Tryz.zeroValue313
 t53:=Tryz.underlying209
 a53:=Tryz.isAgg209
 z53:=Tryz.sizeOf209
 v53:=Tryz.zeroValue209
 t70:=Tryz.underlying237
 a70:=Tryz.isAgg237
 z70:=Tryz.sizeOf237
 v70:=Tryz.zeroValue237
 t72:=Tryz.underlying239
 a72:=Tryz.isAgg239
 z72:=Tryz.sizeOf239
 v72:=Tryz.zeroValue239
 t75:=Tryz.underlying220
 a75:=Tryz.isAgg220
 z75:=Tryz.sizeOf220
 v75:=Tryz.zeroValue220
 t76:=Tryz.underlying240
 a76:=Tryz.isAgg240
 z76:=Tryz.sizeOf240
 v76:=Tryz.zeroValue240
 t109:=Tryz.underlying277
 a109:=Tryz.isAgg277
 z109:=Tryz.sizeOf277
 v109:=Tryz.zeroValue277
 t127:=Tryz.underlying281
 a127:=Tryz.isAgg281
 z127:=Tryz.sizeOf281
 v127:=Tryz.zeroValue281
 t146:=Tryz.underlying314
 a146:=Tryz.isAgg314
 z146:=Tryz.sizeOf314
 v146:=Tryz.zeroValue314
 t148:=Tryz.underlying316
 a148:=Tryz.isAgg316
 z148:=Tryz.sizeOf316
 v148:=Tryz.zeroValue316
 t164:=Tryz.underlying311
 a164:=Tryz.isAgg311
 z164:=Tryz.sizeOf311
 v164:=Tryz.zeroValue311}
theorem Tryz.aha:Builder.Extra Tryz.prog Tryz.ZH:={
 sizeBuilder:=Ok
 liesBuilder:=Ok
 t5:=Tryz.underlying5
 a5:=Tryz.isAgg5
 z5:=Tryz.sizeOf5
 v5:=Tryz.zeroValue5
 infoByte:=Ok
 cellsByte:=Ok
 sizeByte:=Ok
 neB5:=by decide}
theorem Tryz.strings_Repeat(s:ByteArray)(c:Nat)(w:World)(hc:c≤9223372036854775807)(hlen:s.size*c≤140737488355328):
 Calls Tryz.prog 171 #[.string s,.int .i64 c] w fun e w'=>e= .returned (.string ⟨(Lib.repeatL s.data.toList c).toArray⟩)∧Below w.heap.size w w':=Any.strings_Repeat Tryz.aoA Tryz.aha s c w hc hlen
def Tryz.ail:Go.Shelf.Ren:=⟨fun|108=>218|n=>n,fun|28=>22|3=>3|0=>0|4=>4|n=>n,fun|n=>n⟩
theorem Tryz.aoz:Go.Proofs.Lays.n108 Tryz.prog Tryz.ail:={
 mixed:=Ok
 f108:=Tryz.func218.trans (congrArg some Ok)
 t0:=Tryz.underlying0
 a0:=Tryz.isAgg0
 z0:=Tryz.sizeOf0
 v0:=Tryz.zeroValue0
 t3:=Tryz.underlying3
 a3:=Tryz.isAgg3
 z3:=Tryz.sizeOf3
 v3:=Tryz.zeroValue3
 t4:=Tryz.underlying4
 a4:=Tryz.isAgg4
 z4:=Tryz.sizeOf4
 v4:=Tryz.zeroValue4
 t28:=Tryz.underlying22
 a28:=Tryz.isAgg22
 z28:=Tryz.sizeOf22
 v28:=Tryz.zeroValue22}
theorem Tryz.slices_Index_int(b off n c:Nat)(zs:List Int)(x:Int)(w:World)(hz:n≤zs.length)(I5:n≤9223372036854775807)(hc:∀j,j<zs.length→w.cell? ⟨b,off+j,none⟩=some (.int .i64 (zs.getD j 0))):
 Calls Tryz.prog 218 #[.slice (some ⟨b,off,none⟩) n c,.int .i64 x] w fun e w'=>e= .returned (.int .i64 (Lib.idxOf (zs.take n) x))∧w'=w:=Any.slices_Index_int Tryz.aoz b off n c zs x w hz I5 hc
def Tryz.aim:Go.Shelf.Ren:=⟨fun|107=>176|108=>218|n=>n,fun|28=>22|3=>3|4=>4|0=>0|n=>n,fun|n=>n⟩
theorem Tryz.ac':Go.Proofs.Lays.n107 Tryz.prog Tryz.aim:={
 mixed:=Ok
 f107:=Tryz.func176.trans (congrArg some Ok)
 f108:=Tryz.func218.trans (congrArg some Ok)
 t0:=Tryz.underlying0
 a0:=Tryz.isAgg0
 z0:=Tryz.sizeOf0
 v0:=Tryz.zeroValue0
 t3:=Tryz.underlying3
 a3:=Tryz.isAgg3
 z3:=Tryz.sizeOf3
 v3:=Tryz.zeroValue3
 t4:=Tryz.underlying4
 a4:=Tryz.isAgg4
 z4:=Tryz.sizeOf4
 v4:=Tryz.zeroValue4
 t28:=Tryz.underlying22
 a28:=Tryz.isAgg22
 z28:=Tryz.sizeOf22
 v28:=Tryz.zeroValue22}
theorem Tryz.slices_Contains_int(b off n c:Nat)(zs:List Int)(x:Int)(w:World)(hz:n≤zs.length)(I5:n≤9223372036854775807)(hc:∀j,j<zs.length→w.cell? ⟨b,off+j,none⟩=some (.int .i64 (zs.getD j 0))):
 Calls Tryz.prog 176 #[.slice (some ⟨b,off,none⟩) n c,.int .i64 x] w fun e w'=>e= .returned (.bool ((zs.take n).contains x))∧w'=w:=Any.slices_Contains_int Tryz.ac' b off n c zs x w hz I5 hc
theorem Tryz.slices_Contains_int_empty(a:Option Addr)(c:Nat)(x:Int)(w:World):
 Calls Tryz.prog 176 #[.slice a 0 c,.int .i64 x] w fun e w'=>e= .returned (.bool false)∧w'=w:=Any.slices_Contains_int_empty Tryz.ac' a c x w
def Tryz.aik:Go.Shelf.Ren:=⟨fun|110=>208|109=>256|n=>n,fun|31=>44|9=>9|4=>4|3=>3|0=>0|n=>n,fun|n=>n⟩
theorem Tryz.aoy:Go.Proofs.Lays.n110 Tryz.prog Tryz.aik:={
 mixed:=Ok
 f109:=Tryz.func256.trans (congrArg some Ok)
 f110:=Tryz.func208.trans (congrArg some Ok)
 t0:=Tryz.underlying0
 a0:=Tryz.isAgg0
 z0:=Tryz.sizeOf0
 v0:=Tryz.zeroValue0
 t3:=Tryz.underlying3
 a3:=Tryz.isAgg3
 z3:=Tryz.sizeOf3
 v3:=Tryz.zeroValue3
 t4:=Tryz.underlying4
 a4:=Tryz.isAgg4
 z4:=Tryz.sizeOf4
 v4:=Tryz.zeroValue4
 t9:=Tryz.underlying9
 a9:=Tryz.isAgg9
 z9:=Tryz.sizeOf9
 v9:=Tryz.zeroValue9
 t31:=Tryz.underlying44
 a31:=Tryz.isAgg44
 z31:=Tryz.sizeOf44
 v31:=Tryz.zeroValue44}
theorem Tryz.slices_Contains_string(b off n c:Nat)(zs:List ByteArray)(x:ByteArray)(w:World)(hz:n≤zs.length)(I5:n≤9223372036854775807)(hc:∀j,j<zs.length→w.cell? ⟨b,off+j,none⟩=some (.string (zs.getD j ByteArray.empty))):
 Calls Tryz.prog 208 #[.slice (some ⟨b,off,none⟩) n c,.string x] w fun e w'=>e= .returned (.bool (Lib.containsS (zs.take n) x))∧w'=w:=Any.slices_Contains_string Tryz.aoy b off n c zs x w hz I5 hc
open Go.Sort in
theorem Tryz.slices_Sort_string_none(p:Option Addr)(cap:Nat)(w:World):
 Calls Tryz.prog 227 #[.slice p 0 cap] w fun e w'=>e= .returned (.tuple #[])∧w'=w:=Any.slices_Sort_string_none Tryz.ac8 p cap w
end Go.Proofs
