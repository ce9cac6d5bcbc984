/- Contracts of Go's library, laid by the kit's tool. -/
import Derived.Shelf.Strings.Builder1
import Derived.Shelf.Strings.Builder2
import Derived.Shelf.Small.Bits
import Derived.Shelf.Small.Wraps
import Derived.Shelf.Strings.BuilderF
import Derived.Shelf.Strings.BuilderK
import Derived.Shelf.Strconv.Itoa0
import Derived.Shelf.Strconv.Itoa1
import Derived.Shelf.LaysM
import Derived.Shelf.Strconv.Itoa2
import Derived.Shelf.Strconv.Itoa3
import Derived.Ground.MpProg
import Derived.Shelf.Pu.ParseUintPublic10
import Derived.Shelf.Strings.Search1
import Derived.Shelf.Strings.Search2
import Derived.Shelf.Strings.Cut
import Derived.Shelf.Sort.Plain
import Derived.Shelf.Strings.Prefix
import Derived.Shelf.Bits.Mul64
import Derived.Shelf.Strings.Repeat
import Derived.Shelf.Slices.Turned
import Derived.Ground.Names2Prog
import Derived.Shelf.Slices.Clone
import Derived.Shelf.Slices.CompactS
import Derived.Shelf.Slices.In.SortNone
import Derived.Test.YtehkcnbodcdijaaGreatDoorProg
open Go.Shelf
namespace Go.Proofs
open Go.RowKit Go.Lib
theorem Oe{p:Prop}(h:p:=by (first|(intro h;cases h;done)|(intro _ h;cases h;done)|(intro _ _ h;cases h;done)|(intros;rename_i h;cases h))):p:=h
theorem On{p:Prop}(h:p:=by go_num):p:=h
theorem Om{p:Prop}(h:p:=by omega):p:=h
theorem Od{p:Prop}(h:p:=by decide):p:=h
theorem Ok{p:Prop}(h:p:=by kernel_rfl):p:=h
theorem Ou{p:Prop}(h:p:=by simp):p:=h
theorem Oc{p:Prop}(h:p:=by (simp;omega)):p:=h
theorem Oz{p:Prop}(h:p:=by (simp [Go.RowKit.intOf];omega)):p:=h
def Tryz.aaA:Go.Shelf.Ren:=⟨fun|169=>118|n=>n,fun|70=>198|9=>9|0=>0|72=>201|37=>199|127=>262|3=>3|5=>5|n=>n,fun|n=>n⟩
theorem Tryz.aef:Go.Proofs.Lays.n169 Tryz.prog Tryz.aaA:=by constructor<;>intros<;>kernel_rfl
theorem Tryz.BH:Builder.Extra Tryz.prog Tryz.aaA:={
 sizeBuilder:=Ok
 liesBuilder:=Ok
 t5:=Tryz.underlying5
 a5:=Tryz.isAgg5
 z5:=Tryz.sizeOf5
 v5:=Tryz.zeroValue5
 infoByte:=Ok
 cellsByte:=Ok
 sizeByte:=Ok
 neB5:=by decide}
theorem Tryz.Builder_String_any(B b:Nat)(l:List UInt8)(w:World)(h:Lib.IsBuilder 201 5 B b (Lib.byteCells l) w)(Xo:B≤w.heap.size):
 Calls Tryz.prog 118 #[.pointer (some ⟨b,0,none⟩)] w fun e w'=>e= .returned (.string ⟨l.toArray⟩)∧Below B w w':=Any.Builder_String_any Tryz.aef Tryz.BH B b l w h Xo
def Tryz.avD:Go.Shelf.Ren:=⟨fun|210=>251|206=>291|n=>n,fun|9=>9|4=>4|3=>3|n=>n,fun|n=>n⟩
def Tryz.ajA:Go.Shelf.Ren:=⟨fun|103=>196|210=>251|206=>291|n=>n,fun|9=>9|4=>4|24=>263|3=>3|n=>n,fun|n=>n⟩
theorem Tryz.ap3:Go.Proofs.Lays.n103 Tryz.prog Tryz.ajA:=by constructor<;>intros<;>kernel_rfl
theorem Tryz.strings_CutPrefix(s p:ByteArray)(w:World):
 Calls Tryz.prog 196 #[.string s,.string p] w fun e w'=>e= .returned (.tuple #[.string ⟨(Lib.trimPrefix s.data.toList p.data.toList).toArray⟩,.bool (Lib.hasPrefix s.data.toList p.data.toList)])∧w'=w:=Any.strings_CutPrefix Tryz.ap3 s p w
theorem Tryz.Builder_String_any_k(B b:Nat)(l:List UInt8)(w:World)(h:Lib.IsBuilderF 201 5 B b (Lib.byteCells l) w)(Xo:B≤w.heap.size):
 Calls Tryz.prog 118 #[.pointer (some ⟨b,0,none⟩)] w fun e w'=>e= .returned (.string ⟨l.toArray⟩)∧(Lib.IsBuilderF 201 5 B b (Lib.byteCells l) w'∧Below B w w'∧Lib.OthersKept 5 (some b) w w'):=Any.Builder_String_any_k Tryz.aef Tryz.BH B b l w h Xo
def Tryz.ajt:Go.Shelf.Ren:=⟨fun|283=>316|n=>n,fun|3=>3|9=>9|4=>4|n=>n,fun|n=>n⟩
theorem Tryz.apY:Go.Proofs.Lays.n283 Tryz.prog Tryz.ajt:=by constructor<;>intros<;>kernel_rfl
theorem Tryz.internal_strconv_small(i:Nat)(h:i<100)(w:World):
 Calls Tryz.prog 316 #[.int .i64 i] w fun e w'=>e= .returned (.string ⟨(Lib.decDigits i).toArray⟩)∧w'=w:=Any.internal_strconv_small Tryz.apY i h w
def Tryz.aiT:Go.Shelf.Ren:=⟨fun|284=>317|129=>313|317=>350|318=>351|n=>n,fun|53=>265|3=>3|212=>386|0=>0|4=>4|46=>242|5=>5|9=>9|n=>n,fun|17=>3|n=>n⟩
theorem Tryz.aon:Go.Proofs.LaysM.n284 Tryz.prog Tryz.aiT:=by constructor<;>intros<;>first|kernel_rfl|(constructor<;>intros<;>kernel_rfl)
theorem Tryz.internal_strconv_numDigits(u:Nat)(h1:1≤u)(h2:u<18446744073709551616)(w:World)(atm:Lib.TabIs Tryz.prog w "internal/strconv.uint64pow10" .u64 Lib.pow10Tab):
 Calls Tryz.prog 317 #[.int .u64 u] w fun e w'=>e= .returned (.int .i64 (Lib.nDigits u))∧w'=w:=Any.internal_strconv_numDigits Tryz.aon u h1 h2 w atm
def Tryz.ajs:Go.Shelf.Ren:=⟨fun|285=>318|n=>n,fun|37=>199|53=>265|3=>3|4=>4|51=>354|9=>9|5=>5|0=>0|n=>n,fun|n=>n⟩
theorem Tryz.apX:Go.Proofs.Lays.n285 Tryz.prog Tryz.ajs:=by constructor<;>intros<;>kernel_rfl
open Go.Sort in
theorem Tryz.internal_strconv_formatBase10(blk off cap:Nat)(u:Nat)(d:Array UInt8)(w:World)(hH:Holds (fun(b:UInt8)=>Value.int .u8 (b.toNat:Int)) w blk off d)(hu:u<10^d.size)(atl:u<18446744073709551616)(hsz:d.size<4611686018427387904):
 Calls Tryz.prog 318 #[.slice (some ⟨blk,off,none⟩) d.size cap,.int .u64 u] w fun e w'=>
  e= .returned (.tuple #[])∧∃(n v':Nat) (dk:Array UInt8),w'=(putRow (fun(b:UInt8)=>Value.int .u8 (b.toNat:Int)) w blk off dk).drewN n∧FmtInv d.size u 0 v' dk:=Any.internal_strconv_formatBase10 Tryz.apX blk off cap u d w hH hu atl hsz
def Tryz.aiS:Go.Shelf.Ren:=⟨fun|14=>197|16=>252|17=>253|19=>298|20=>299|21=>300|22=>301|23=>302|24=>303|25=>342|27=>344|26=>343|28=>369|29=>376|30=>316|31=>317|32=>318|33=>319|35=>313|34=>350|36=>351|37=>352|38=>353|39=>371|40=>372|n=>n,fun|9=>9|3=>3|22=>265|24=>203|25=>266|4=>4|34=>341|5=>5|36=>242|37=>199|0=>0|39=>343|21=>21|44=>378|47=>262|50=>406|48=>404|2=>2|52=>360|55=>362|59=>386|60=>354|20=>20|61=>387|65=>413|66=>414|67=>154|n=>n,fun|0=>1|1=>2|2=>3|3=>11|4=>12|n=>n⟩
theorem Tryz.aom:Go.Proofs.LaysPu.n14 Tryz.prog Tryz.aiS:=by constructor<;>intros<;>kernel_rfl
theorem Tryz.strconv_ParseUint_10_at64_ok(s:ByteArray)(OB:s.size≤9223372036854775806)(u:Nat)(h:Lib.parseUintB 64 s.data.toList= .ok u)(w:World):
 Calls Tryz.prog 197 #[.string s,.int .i64 10,.int .i64 64] w fun e w'=>e= .returned (.tuple #[.int .u64 u,.nilIface])∧(w'=w∨w'=Lib.bytesWorld w 5 s):=Any.strconv_ParseUint_10_at64_ok Tryz.aom s OB u h w
def Tryz.aju:Go.Shelf.Ren:=⟨fun|217=>294|266=>340|n=>n,fun|9=>9|5=>5|3=>3|n=>n,fun|n=>n⟩
theorem Tryz.apZ:Go.Proofs.Lays.n217 Tryz.prog Tryz.aju:=by constructor<;>intros<;>kernel_rfl
theorem Tryz.stringslite_IndexByte(s:ByteArray)(c:Int)(w:World):
 Calls Tryz.prog 294 #[.string s,.int .u8 c] w fun e w'=>e= .returned (.int .i64 (Lib.indexByte s.data.toList c.toNat.toUInt8))∧w'=w:=Any.stringslite_IndexByte Tryz.apZ s c w
def Tryz.ajw:Go.Shelf.Ren:=⟨fun|190=>279|125=>256|258=>325|128=>312|129=>313|302=>355|303=>356|304=>357|305=>358|306=>359|307=>360|308=>361|309=>362|310=>363|333=>373|329=>346|330=>347|334=>374|335=>375|336=>257|344=>377|n=>n,fun|31=>67|9=>9|3=>3|46=>242|0=>0|51=>354|53=>265|4=>4|183=>348|182=>347|131=>186|5=>5|218=>380|222=>383|228=>407|229=>408|n=>n,fun|n=>n⟩
theorem Tryz.aee:Go.Proofs.Lays.n190 Tryz.prog Tryz.ajw:=by constructor<;>intros<;>kernel_rfl
open Go.Sort in
theorem Tryz.slices_Sort_string(blk off cap:Nat)(ss:List (List UInt8))(w:World)(hH:Holds encStr w blk off ss.toArray)(hblk:blk<w.heap.size)(hsz:ss.length<4611686018427387904):
 Calls Tryz.prog 279 #[.slice (some ⟨blk,off,none⟩) ss.length cap] w fun e w'=>
  e= .returned (.tuple #[])∧∃n os,w'=grow (putRow encStr (Sort.ahead w n) blk off (ss.mergeSort fun x y=>decide (x≤y)).toArray) os:=Any.slices_Sort_string Tryz.aee blk off cap ss w hH hblk hsz
def Tryz.ajB:Go.Shelf.Ren:=⟨fun|101=>192|208=>247|206=>291|n=>n,fun|9=>9|4=>4|3=>3|n=>n,fun|n=>n⟩
theorem Tryz.ap4:Go.Proofs.Lays.n101 Tryz.prog Tryz.ajB:=by constructor<;>intros<;>kernel_rfl
theorem Tryz.strings_TrimPrefix(s p:ByteArray)(w:World):
 Calls Tryz.prog 192 #[.string s,.string p] w fun e w'=>e= .returned (.string ⟨(Lib.trimPrefix s.data.toList p.data.toList).toArray⟩)∧w'=w:=Any.strings_TrimPrefix Tryz.ap4 s p w
def Tryz.aaB:Go.Shelf.Ren:=⟨fun|105=>217|212=>266|99=>267|165=>268|166=>116|170=>269|169=>118|263=>321|264=>322|206=>291|240=>193|241=>323|276=>248|277=>354|n=>n,fun|9=>9|3=>3|4=>4|20=>20|0=>0|46=>242|109=>322|5=>5|72=>201|76=>204|51=>354|146=>365|53=>265|148=>367|70=>198|37=>199|75=>203|127=>262|164=>308|80=>154|n=>n,fun|n=>n⟩
theorem Tryz.ap2:Go.Proofs.Lays.n105 Tryz.prog Tryz.aaB:=by constructor<;>intros<;>kernel_rfl
theorem Tryz.aig:Builder.Extra Tryz.prog Tryz.aaB:={
 sizeBuilder:=Ok
 liesBuilder:=Ok
 t5:=Tryz.underlying5
 a5:=Tryz.isAgg5
 z5:=Tryz.sizeOf5
 v5:=Tryz.zeroValue5
 infoByte:=Ok
 cellsByte:=Ok
 sizeByte:=Ok
 neB5:=by decide}
theorem Tryz.strings_Repeat(s:ByteArray)(c:Nat)(w:World)(hc:c≤9223372036854775807)(hlen:s.size*c≤140737488355328):
 Calls Tryz.prog 217 #[.string s,.int .i64 c] w fun e w'=>e= .returned (.string ⟨(Lib.repeatL s.data.toList c).toArray⟩)∧Below w.heap.size w w':=Any.strings_Repeat Tryz.ap2 Tryz.aig s c w hc hlen
def Tryz.ajy:Go.Shelf.Ren:=⟨fun|108=>271|n=>n,fun|28=>22|3=>3|0=>0|4=>4|n=>n,fun|n=>n⟩
theorem Tryz.ap1:Go.Proofs.Lays.n108 Tryz.prog Tryz.ajy:=by constructor<;>intros<;>kernel_rfl
theorem Tryz.slices_Index_int(b off n c:Nat)(zs:List Int)(x:Int)(w:World)(hz:n≤zs.length)(JW:n≤9223372036854775807)(hc:∀j,j<zs.length→w.cell? ⟨b,off+j,none⟩=some (.int .i64 (zs.getD j 0))):
 Calls Tryz.prog 271 #[.slice (some ⟨b,off,none⟩) n c,.int .i64 x] w fun e w'=>e= .returned (.int .i64 (Lib.idxOf (zs.take n) x))∧w'=w:=Any.slices_Index_int Tryz.ap1 b off n c zs x w hz JW hc
def Tryz.ajz:Go.Shelf.Ren:=⟨fun|107=>221|108=>271|n=>n,fun|28=>22|3=>3|4=>4|0=>0|n=>n,fun|n=>n⟩
theorem Tryz.aeg:Go.Proofs.Lays.n107 Tryz.prog Tryz.ajz:=by constructor<;>intros<;>kernel_rfl
theorem Tryz.slices_Contains_int(b off n c:Nat)(zs:List Int)(x:Int)(w:World)(hz:n≤zs.length)(JW:n≤9223372036854775807)(hc:∀j,j<zs.length→w.cell? ⟨b,off+j,none⟩=some (.int .i64 (zs.getD j 0))):
 Calls Tryz.prog 221 #[.slice (some ⟨b,off,none⟩) n c,.int .i64 x] w fun e w'=>e= .returned (.bool ((zs.take n).contains x))∧w'=w:=Any.slices_Contains_int Tryz.aeg b off n c zs x w hz JW hc
theorem Tryz.slices_Contains_int_empty(a:Option Addr)(c:Nat)(x:Int)(w:World):
 Calls Tryz.prog 221 #[.slice a 0 c,.int .i64 x] w fun e w'=>e= .returned (.bool false)∧w'=w:=Any.slices_Contains_int_empty Tryz.aeg a c x w
def Tryz.ajx:Go.Shelf.Ren:=⟨fun|110=>262|109=>320|n=>n,fun|31=>67|9=>9|4=>4|3=>3|0=>0|n=>n,fun|n=>n⟩
theorem Tryz.ap0:Go.Proofs.Lays.n110 Tryz.prog Tryz.ajx:=by constructor<;>intros<;>kernel_rfl
theorem Tryz.slices_Contains_string(b off n c:Nat)(zs:List ByteArray)(x:ByteArray)(w:World)(hz:n≤zs.length)(JW:n≤9223372036854775807)(hc:∀j,j<zs.length→w.cell? ⟨b,off+j,none⟩=some (.string (zs.getD j ByteArray.empty))):
 Calls Tryz.prog 262 #[.slice (some ⟨b,off,none⟩) n c,.string x] w fun e w'=>e= .returned (.bool (Lib.containsS (zs.take n) x))∧w'=w:=Any.slices_Contains_string Tryz.ap0 b off n c zs x w hz JW hc
open Go.Sort in
theorem Tryz.slices_Sort_string_none(p:Option Addr)(cap:Nat)(w:World):
 Calls Tryz.prog 279 #[.slice p 0 cap] w fun e w'=>e= .returned (.tuple #[])∧w'=w:=Any.slices_Sort_string_none Tryz.aee p cap w
end Go.Proofs
