/- DERIVED. -/
import Derived.Shelf.Strings.Builder1
import Derived.Shelf.Strings.Builder2
import Derived.Shelf.Strings.Trim
import Derived.Shelf.Small.Utf8
import Derived.Shelf.Small.Bits
import Derived.Shelf.Small.Strs
import Derived.Shelf.Strconv.Itoa0
import Derived.Shelf.Strconv.Itoa1
import Derived.Shelf.LaysM
import Derived.Shelf.Strconv.Itoa2
import Derived.Shelf.Strconv.Itoa3
import Derived.Shelf.Strconv.ParseIntEmpty
import Derived.Shelf.Strconv.Clone
import Derived.Shelf.Strconv.SyntaxError
import Derived.Shelf.LaysC
import Derived.Shelf.Strconv.ToError
import Derived.Shelf.Strconv.Lower
import Derived.Shelf.Strconv.ParseUint10
import Derived.Shelf.Strconv.ParseUint10Empty
import Derived.Shelf.Strconv.ParseUint10Any
import Derived.Shelf.Strconv.ParseInt10
import Derived.Shelf.Strconv.RangeError
import Derived.Shelf.Strconv.ToErrorRange
import Derived.Shelf.Strconv.ParseUintEmpty
import Derived.Shelf.Strconv.ParseUint10b64
import Derived.Shelf.Strconv.ParseUint10b32
import Derived.Shelf.Strconv.ParseUint10b16
import Derived.Shelf.Strconv.ParseUint10b8
import Derived.Shelf.Strconv.ParseUint10At
import Derived.Shelf.Strconv.ParseInt10At64
import Derived.Shelf.Strconv.ParseInt10At32
import Derived.Shelf.Strconv.ParseInt10At16
import Derived.Shelf.Strconv.ParseInt10At8
import Derived.Shelf.Strconv.ParseInt10All
import Derived.Shelf.Strconv.ParseIntPublic10
import Derived.Shelf.Strings.Search1
import Derived.Shelf.Strings.Search2
import Derived.Shelf.Strings.Search3
import Derived.Shelf.Strings.Count
import Derived.Shelf.Strings.Shaped
import Derived.Shelf.Strings.Prefix
import Derived.Shelf.Strings.Split
import Derived.Shelf.Strings.Replace
import Derived.Shelf.Strings.SplitShaped
import Derived.Shelf.Strings.Runes
import Derived.Shelf.Strings.AsciiSet
import Derived.Shelf.Bits.Mul64
import Derived.Shelf.Unicode.DecodeSlow
import Derived.Test.YtimcmghhbdfjfaaGreatDoorProg
set_option linter.unusedVariables false
set_option linter.unusedSimpArgs false
namespace Go.Proofs
open Go.Shelf
def Tryz.lays161_ren:Go.Shelf.Ren:=⟨fun|161=>23|231=>48|227=>49|233=>50|235=>51|228=>74|197=>75|151=>76|260=>96|152=>97|137=>112|119=>113|224=>114|225=>115|217=>143|266=>183|n=>n,fun|9=>9|4=>4|3=>3|5=>5|117=>95|116=>94|0=>0|124=>98|105=>120|21=>21|119=>149|46=>150|139=>153|138=>152|n=>n,fun|3=>0|4=>1|n=>n⟩
theorem Tryz.lays161:Go.Proofs.Lays.n161 Tryz.prog Tryz.lays161_ren:={
 mixed:=by kernel_rfl
 f119:=Tryz.func113.trans (congrArg some (by kernel_rfl))
 f137:=Tryz.func112.trans (congrArg some (by kernel_rfl))
 f151:=Tryz.func76.trans (congrArg some (by kernel_rfl))
 f152:=Tryz.func97.trans (congrArg some (by kernel_rfl))
 f161:=Tryz.func23.trans (congrArg some (by kernel_rfl))
 f197:=Tryz.func75.trans (congrArg some (by kernel_rfl))
 f217:=Tryz.func143.trans (congrArg some (by kernel_rfl))
 f224:=Tryz.func114.trans (congrArg some (by kernel_rfl))
 f225:=Tryz.func115.trans (congrArg some (by kernel_rfl))
 f227:=Tryz.func49.trans (congrArg some (by kernel_rfl))
 f228:=Tryz.func74.trans (congrArg some (by kernel_rfl))
 f231:=Tryz.func48.trans (congrArg some (by kernel_rfl))
 f233:=Tryz.func50.trans (congrArg some (by kernel_rfl))
 f235:=Tryz.func51.trans (congrArg some (by kernel_rfl))
 f260:=Tryz.func96.trans (congrArg some (by kernel_rfl))
 f266:=Tryz.func183.trans (congrArg some (by kernel_rfl))
 t0:=Tryz.underlying0
 a0:=Tryz.isAgg0
 z0:=Tryz.sizeOf0
 v0:=Tryz.zeroValue0
 t3:=Tryz.underlying3
 a3:=Tryz.isAgg3
 z3:=Tryz.sizeOf3
 v3:=Tryz.zeroValue3
 t4:=Tryz.underlying4
 a4:=Tryz.isAgg4
 z4:=Tryz.sizeOf4
 v4:=Tryz.zeroValue4
 t5:=Tryz.underlying5
 a5:=Tryz.isAgg5
 z5:=Tryz.sizeOf5
 v5:=Tryz.zeroValue5
 t9:=Tryz.underlying9
 a9:=Tryz.isAgg9
 z9:=Tryz.sizeOf9
 v9:=Tryz.zeroValue9
 t21:=Tryz.underlying21
 a21:=Tryz.isAgg21
 z21:=Tryz.sizeOf21
 v21:=Tryz.zeroValue21
 t46:=Tryz.underlying150
 a46:=Tryz.isAgg150
 z46:=Tryz.sizeOf150
 v46:=Tryz.zeroValue150
 t105:=Tryz.underlying120
 a105:=Tryz.isAgg120
 z105:=Tryz.sizeOf120
 v105:=Tryz.zeroValue120
 t116:=Tryz.underlying94
 a116:=Tryz.isAgg94
 z116:=Tryz.sizeOf94
 t117:=Tryz.underlying95
 a117:=Tryz.isAgg95
 z117:=Tryz.sizeOf95
 v117:=Tryz.zeroValue95
 t119:=Tryz.underlying149
 a119:=Tryz.isAgg149
 z119:=Tryz.sizeOf149
 t124:=Tryz.underlying98
 a124:=Tryz.isAgg98
 z124:=Tryz.sizeOf98
 v124:=Tryz.zeroValue98
 t138:=Tryz.underlying152
 a138:=Tryz.isAgg152
 z138:=Tryz.sizeOf152
 v138:=Tryz.zeroValue152
 t139:=Tryz.underlying153
 a139:=Tryz.isAgg153
 z139:=Tryz.sizeOf153
 v139:=Tryz.zeroValue153
 g3:=by kernel_rfl
 g4:=by kernel_rfl }
open Go.RowKit in
theorem Tryz.strings_TrimLeft_one (s:ByteArray) (c:UInt8) (hc:c.toNat<128) (w:World):
 Calls Tryz.prog 23 #[.string s,.string ⟨#[c]⟩] w fun e w'=>e=.returned (.string ⟨(Lib.trimLeftB s.data.toList c).toArray⟩)/\w'=w:=Any.strings_TrimLeft_one Tryz.lays161 s c hc w
def Tryz.lays283_ren:Go.Shelf.Ren:=⟨fun|283=>139|n=>n,fun|3=>3|9=>9|4=>4|n=>n,fun|n=>n⟩
theorem Tryz.lays283:Go.Proofs.Lays.n283 Tryz.prog Tryz.lays283_ren:={
 mixed:=by kernel_rfl
 f283:=Tryz.func139.trans (congrArg some (by kernel_rfl))
 t3:=Tryz.underlying3
 a3:=Tryz.isAgg3
 z3:=Tryz.sizeOf3
 v3:=Tryz.zeroValue3
 t4:=Tryz.underlying4
 a4:=Tryz.isAgg4
 z4:=Tryz.sizeOf4
 v4:=Tryz.zeroValue4
 t9:=Tryz.underlying9
 a9:=Tryz.isAgg9
 z9:=Tryz.sizeOf9
 v9:=Tryz.zeroValue9 }
open Go.Lib in
theorem Tryz.internal_strconv_small (i:Nat) (h:i<100) (w:World):
 Calls Tryz.prog 139 #[.int .i64 i] w fun e w'=>e=.returned (.string ⟨(Lib.decDigits i).toArray⟩)/\w'=w:=Any.internal_strconv_small Tryz.lays283 i h w
def Tryz.laysM284_ren:Go.Shelf.Ren:=⟨fun|284=>140|129=>179|317=>178|318=>180|n=>n,fun|53=>136|3=>3|212=>212|0=>0|4=>4|46=>150|5=>5|9=>9|n=>n,fun|17=>3|n=>n⟩
theorem Tryz.laysM284:Go.Proofs.LaysM.n284 Tryz.prog Tryz.laysM284_ren:={
 mixed:=by kernel_rfl
 f129:=Tryz.func179.trans (congrArg some (by kernel_rfl))
 f284:=Tryz.func140.trans (congrArg some (by kernel_rfl))
 f317:=Tryz.func178.trans (congrArg some (by kernel_rfl))
 f318:=Tryz.func180.trans (congrArg some (by kernel_rfl))
 t0:=Tryz.underlying0
 a0:=Tryz.isAgg0
 z0:=Tryz.sizeOf0
 v0:=Tryz.zeroValue0
 t3:=Tryz.underlying3
 a3:=Tryz.isAgg3
 z3:=Tryz.sizeOf3
 v3:=Tryz.zeroValue3
 t4:=Tryz.underlying4
 a4:=Tryz.isAgg4
 z4:=Tryz.sizeOf4
 v4:=Tryz.zeroValue4
 t5:=Tryz.underlying5
 a5:=Tryz.isAgg5
 z5:=Tryz.sizeOf5
 v5:=Tryz.zeroValue5
 t9:=Tryz.underlying9
 a9:=Tryz.isAgg9
 z9:=Tryz.sizeOf9
 v9:=Tryz.zeroValue9
 t46:=Tryz.underlying150
 a46:=Tryz.isAgg150
 z46:=Tryz.sizeOf150
 v46:=Tryz.zeroValue150
 t53:=Tryz.underlying136
 a53:=Tryz.isAgg136
 z53:=Tryz.sizeOf136
 v53:=Tryz.zeroValue136
 t212:=Tryz.underlying212
 a212:=Tryz.isAgg212
 z212:=Tryz.sizeOf212
 v212:=Tryz.zeroValue212
 g17:=by kernel_rfl
 i0:=by kernel_rfl
 i3:=by kernel_rfl
 i4:=by kernel_rfl
 i5:=by kernel_rfl
 i9:=by kernel_rfl
 i46:=by kernel_rfl
 i53:=by kernel_rfl
 i212:=by kernel_rfl
 m17:=by kernel_rfl }
open Go.Lib in
theorem Tryz.internal_strconv_numDigits (u:Nat) (h1:1<=u) (h2:u<18446744073709551616) (w:World) (htab:Lib.TabIs Tryz.prog w "internal/strconv.uint64pow10" .u64 Lib.pow10Tab):
 Calls Tryz.prog 140 #[.int .u64 u] w fun e w'=>e=.returned (.int .i64 (Lib.nDigits u))/\w'=w:=Any.internal_strconv_numDigits Tryz.laysM284 u h1 h2 w htab
def Tryz.lays285_ren:Go.Shelf.Ren:=⟨fun|285=>141|n=>n,fun|37=>79|53=>136|3=>3|4=>4|51=>213|9=>9|5=>5|0=>0|n=>n,fun|n=>n⟩
theorem Tryz.lays285:Go.Proofs.Lays.n285 Tryz.prog Tryz.lays285_ren:={
 mixed:=by kernel_rfl
 f285:=Tryz.func141.trans (congrArg some (by kernel_rfl))
 t0:=Tryz.underlying0
 a0:=Tryz.isAgg0
 z0:=Tryz.sizeOf0
 v0:=Tryz.zeroValue0
 t3:=Tryz.underlying3
 a3:=Tryz.isAgg3
 z3:=Tryz.sizeOf3
 v3:=Tryz.zeroValue3
 t4:=Tryz.underlying4
 a4:=Tryz.isAgg4
 z4:=Tryz.sizeOf4
 v4:=Tryz.zeroValue4
 t5:=Tryz.underlying5
 a5:=Tryz.isAgg5
 z5:=Tryz.sizeOf5
 v5:=Tryz.zeroValue5
 t9:=Tryz.underlying9
 a9:=Tryz.isAgg9
 z9:=Tryz.sizeOf9
 v9:=Tryz.zeroValue9
 t37:=Tryz.underlying79
 a37:=Tryz.isAgg79
 z37:=Tryz.sizeOf79
 v37:=Tryz.zeroValue79
 t51:=Tryz.underlying213
 a51:=Tryz.isAgg213
 z51:=Tryz.sizeOf213
 v51:=Tryz.zeroValue213
 t53:=Tryz.underlying136
 a53:=Tryz.isAgg136
 z53:=Tryz.sizeOf136
 v53:=Tryz.zeroValue136 }
open Go.RowKit Go.Sort Go.Lib in
theorem Tryz.internal_strconv_formatBase10 (blk off cap:Nat) (u:Nat) (d:Array UInt8) (w:World) (hH:Holds (fun (b:UInt8)=>Value.int .u8 (b.toNat:Int)) w blk off d) (hu:u<10 ^ d.size) (hu64:u<18446744073709551616) (hsz:d.size<4611686018427387904):
 Calls Tryz.prog 141 #[.slice (some ⟨blk,off,none⟩) d.size cap,.int .u64 u] w fun e w'=>
  e=.returned (.tuple #[])/\∃ (n v':Nat) (dk:Array UInt8),w'=(putRow (fun (b:UInt8)=>Value.int .u8 (b.toNat:Int)) w blk off dk).drewN n/\FmtInv d.size u 0 v' dk:=Any.internal_strconv_formatBase10 Tryz.lays285 blk off cap u d w hH hu hu64 hsz
def Tryz.laysM246_ren:Go.Shelf.Ren:=⟨fun|246=>111|283=>139|284=>140|285=>141|286=>142|129=>179|317=>178|318=>180|319=>181|320=>182|337=>235|338=>236|n=>n,fun|2=>2|3=>3|9=>9|4=>4|171=>164|0=>0|53=>136|37=>79|5=>5|173=>167|212=>212|51=>213|20=>20|213=>214|46=>150|232=>278|233=>279|n=>n,fun|17=>3|18=>6|19=>7|n=>n⟩
theorem Tryz.laysM246:Go.Proofs.LaysM.n246 Tryz.prog Tryz.laysM246_ren:={
 mixed:=by kernel_rfl
 f129:=Tryz.func179.trans (congrArg some (by kernel_rfl))
 f246:=Tryz.func111.trans (congrArg some (by kernel_rfl))
 f283:=Tryz.func139.trans (congrArg some (by kernel_rfl))
 f284:=Tryz.func140.trans (congrArg some (by kernel_rfl))
 f285:=Tryz.func141.trans (congrArg some (by kernel_rfl))
 f286:=Tryz.func142.trans (congrArg some (by kernel_rfl))
 f317:=Tryz.func178.trans (congrArg some (by kernel_rfl))
 f318:=Tryz.func180.trans (congrArg some (by kernel_rfl))
 f319:=Tryz.func181.trans (congrArg some (by kernel_rfl))
 f320:=Tryz.func182.trans (congrArg some (by kernel_rfl))
 f337:=Tryz.func235.trans (congrArg some (by kernel_rfl))
 f338:=Tryz.func236.trans (congrArg some (by kernel_rfl))
 t0:=Tryz.underlying0
 a0:=Tryz.isAgg0
 z0:=Tryz.sizeOf0
 v0:=Tryz.zeroValue0
 t2:=Tryz.underlying2
 a2:=Tryz.isAgg2
 z2:=Tryz.sizeOf2
 v2:=Tryz.zeroValue2
 t3:=Tryz.underlying3
 a3:=Tryz.isAgg3
 z3:=Tryz.sizeOf3
 v3:=Tryz.zeroValue3
 t4:=Tryz.underlying4
 a4:=Tryz.isAgg4
 z4:=Tryz.sizeOf4
 v4:=Tryz.zeroValue4
 t5:=Tryz.underlying5
 a5:=Tryz.isAgg5
 z5:=Tryz.sizeOf5
 v5:=Tryz.zeroValue5
 t9:=Tryz.underlying9
 a9:=Tryz.isAgg9
 z9:=Tryz.sizeOf9
 v9:=Tryz.zeroValue9
 t20:=Tryz.underlying20
 a20:=Tryz.isAgg20
 z20:=Tryz.sizeOf20
 v20:=Tryz.zeroValue20
 t37:=Tryz.underlying79
 a37:=Tryz.isAgg79
 z37:=Tryz.sizeOf79
 v37:=Tryz.zeroValue79
 t46:=Tryz.underlying150
 a46:=Tryz.isAgg150
 z46:=Tryz.sizeOf150
 v46:=Tryz.zeroValue150
 t51:=Tryz.underlying213
 a51:=Tryz.isAgg213
 z51:=Tryz.sizeOf213
 v51:=Tryz.zeroValue213
 t53:=Tryz.underlying136
 a53:=Tryz.isAgg136
 z53:=Tryz.sizeOf136
 v53:=Tryz.zeroValue136
 t171:=Tryz.underlying164
 a171:=Tryz.isAgg164
 z171:=Tryz.sizeOf164
 v171:=Tryz.zeroValue164
 t173:=Tryz.underlying167
 a173:=Tryz.isAgg167
 z173:=Tryz.sizeOf167
 v173:=Tryz.zeroValue167
 t212:=Tryz.underlying212
 a212:=Tryz.isAgg212
 z212:=Tryz.sizeOf212
 v212:=Tryz.zeroValue212
 t213:=Tryz.underlying214
 a213:=Tryz.isAgg214
 z213:=Tryz.sizeOf214
 t232:=Tryz.underlying278
 a232:=Tryz.isAgg278
 z232:=Tryz.sizeOf278
 v232:=Tryz.zeroValue278
 t233:=Tryz.underlying279
 a233:=Tryz.isAgg279
 z233:=Tryz.sizeOf279
 v233:=Tryz.zeroValue279
 g17:=by kernel_rfl
 g18:=by kernel_rfl
 g19:=by kernel_rfl
 i0:=by kernel_rfl
 i2:=by kernel_rfl
 i3:=by kernel_rfl
 i4:=by kernel_rfl
 i5:=by kernel_rfl
 i9:=by kernel_rfl
 i20:=by kernel_rfl
 i37:=by kernel_rfl
 i46:=by kernel_rfl
 i51:=by kernel_rfl
 i53:=by kernel_rfl
 i171:=by kernel_rfl
 i173:=by kernel_rfl
 i212:=by kernel_rfl
 i232:=by kernel_rfl
 i233:=by kernel_rfl
 m17:=by kernel_rfl
 m18:=by kernel_rfl
 m19:=by kernel_rfl }
open Go.RowKit Go.Sort Go.Lib in
theorem Tryz.internal_strconv_FormatInt_10 (n:Int) (h0:-9223372036854775808<=n) (h1:n<=9223372036854775807) (w:World) (htab:Lib.TabIs Tryz.prog w "internal/strconv.uint64pow10" .u64 Lib.pow10Tab):
 Calls Tryz.prog 111 #[.int .i64 n,.int .i64 10] w fun e w'=>e=.returned (.string ⟨(Lib.itoa n).toArray⟩)/\∃ k os,w'=grow (w.drewN k) os:=Any.internal_strconv_FormatInt_10 Tryz.laysM246 n h0 h1 w htab
def Tryz.laysC174_ren:Go.Shelf.Ren:=⟨fun|174=>100|247=>117|245=>118|287=>144|279=>145|280=>146|281=>147|282=>148|321=>184|322=>185|316=>186|171=>188|205=>187|243=>237|246=>111|283=>139|284=>140|285=>141|286=>142|129=>179|317=>178|318=>180|319=>181|320=>182|337=>235|338=>236|n=>n,fun|9=>9|3=>3|2=>2|75=>115|85=>139|4=>4|167=>169|5=>5|53=>136|175=>170|46=>150|168=>172|37=>79|0=>0|210=>219|21=>21|127=>113|145=>257|143=>255|171=>164|173=>167|212=>212|51=>213|20=>20|213=>214|232=>278|233=>279|80=>84|n=>n,fun|15=>4|16=>5|17=>3|18=>6|19=>7|n=>n⟩
theorem Tryz.laysC174:Go.Proofs.LaysC.n174 Tryz.prog Tryz.laysC174_ren:={
 mixed:=by kernel_rfl
 f129:=Tryz.func179.trans (congrArg some (by kernel_rfl))
 f171:=Tryz.func188.trans (congrArg some (by kernel_rfl))
 f174:=Tryz.func100.trans (congrArg some (by kernel_rfl))
 f205:=Tryz.func187.trans (congrArg some (by kernel_rfl))
 f243:=Tryz.func237.trans (congrArg some (by kernel_rfl))
 f245:=Tryz.func118.trans (congrArg some (by kernel_rfl))
 f246:=Tryz.func111.trans (congrArg some (by kernel_rfl))
 f247:=Tryz.func117.trans (congrArg some (by kernel_rfl))
 f279:=Tryz.func145.trans (congrArg some (by kernel_rfl))
 f280:=Tryz.func146.trans (congrArg some (by kernel_rfl))
 f281:=Tryz.func147.trans (congrArg some (by kernel_rfl))
 f282:=Tryz.func148.trans (congrArg some (by kernel_rfl))
 f283:=Tryz.func139.trans (congrArg some (by kernel_rfl))
 f284:=Tryz.func140.trans (congrArg some (by kernel_rfl))
 f285:=Tryz.func141.trans (congrArg some (by kernel_rfl))
 f286:=Tryz.func142.trans (congrArg some (by kernel_rfl))
 f287:=Tryz.func144.trans (congrArg some (by kernel_rfl))
 f316:=Tryz.func186.trans (congrArg some (by kernel_rfl))
 f317:=Tryz.func178.trans (congrArg some (by kernel_rfl))
 f318:=Tryz.func180.trans (congrArg some (by kernel_rfl))
 f319:=Tryz.func181.trans (congrArg some (by kernel_rfl))
 f320:=Tryz.func182.trans (congrArg some (by kernel_rfl))
 f321:=Tryz.func184.trans (congrArg some (by kernel_rfl))
 f322:=Tryz.func185.trans (congrArg some (by kernel_rfl))
 f337:=Tryz.func235.trans (congrArg some (by kernel_rfl))
 f338:=Tryz.func236.trans (congrArg some (by kernel_rfl))
 t0:=Tryz.underlying0
 a0:=Tryz.isAgg0
 z0:=Tryz.sizeOf0
 v0:=Tryz.zeroValue0
 t2:=Tryz.underlying2
 a2:=Tryz.isAgg2
 z2:=Tryz.sizeOf2
 v2:=Tryz.zeroValue2
 t3:=Tryz.underlying3
 a3:=Tryz.isAgg3
 z3:=Tryz.sizeOf3
 v3:=Tryz.zeroValue3
 t4:=Tryz.underlying4
 a4:=Tryz.isAgg4
 z4:=Tryz.sizeOf4
 v4:=Tryz.zeroValue4
 t5:=Tryz.underlying5
 a5:=Tryz.isAgg5
 z5:=Tryz.sizeOf5
 v5:=Tryz.zeroValue5
 t9:=Tryz.underlying9
 a9:=Tryz.isAgg9
 z9:=Tryz.sizeOf9
 v9:=Tryz.zeroValue9
 t20:=Tryz.underlying20
 a20:=Tryz.isAgg20
 z20:=Tryz.sizeOf20
 v20:=Tryz.zeroValue20
 t21:=Tryz.underlying21
 a21:=Tryz.isAgg21
 z21:=Tryz.sizeOf21
 v21:=Tryz.zeroValue21
 t37:=Tryz.underlying79
 a37:=Tryz.isAgg79
 z37:=Tryz.sizeOf79
 v37:=Tryz.zeroValue79
 t46:=Tryz.underlying150
 a46:=Tryz.isAgg150
 z46:=Tryz.sizeOf150
 v46:=Tryz.zeroValue150
 t51:=Tryz.underlying213
 a51:=Tryz.isAgg213
 z51:=Tryz.sizeOf213
 v51:=Tryz.zeroValue213
 t53:=Tryz.underlying136
 a53:=Tryz.isAgg136
 z53:=Tryz.sizeOf136
 v53:=Tryz.zeroValue136
 t75:=Tryz.underlying115
 a75:=Tryz.isAgg115
 z75:=Tryz.sizeOf115
 v75:=Tryz.zeroValue115
 t85:=Tryz.underlying139
 a85:=Tryz.isAgg139
 z85:=Tryz.sizeOf139
 v85:=Tryz.zeroValue139
 t127:=Tryz.underlying113
 a127:=Tryz.isAgg113
 z127:=Tryz.sizeOf113
 v127:=Tryz.zeroValue113
 t143:=Tryz.underlying255
 a143:=Tryz.isAgg255
 z143:=Tryz.sizeOf255
 v143:=Tryz.zeroValue255
 t145:=Tryz.underlying257
 a145:=Tryz.isAgg257
 z145:=Tryz.sizeOf257
 v145:=Tryz.zeroValue257
 t167:=Tryz.underlying169
 a167:=Tryz.isAgg169
 z167:=Tryz.sizeOf169
 v167:=Tryz.zeroValue169
 t168:=Tryz.underlying172
 a168:=Tryz.isAgg172
 z168:=Tryz.sizeOf172
 v168:=Tryz.zeroValue172
 t171:=Tryz.underlying164
 a171:=Tryz.isAgg164
 z171:=Tryz.sizeOf164
 v171:=Tryz.zeroValue164
 t173:=Tryz.underlying167
 a173:=Tryz.isAgg167
 z173:=Tryz.sizeOf167
 v173:=Tryz.zeroValue167
 t175:=Tryz.underlying170
 a175:=Tryz.isAgg170
 z175:=Tryz.sizeOf170
 v175:=Tryz.zeroValue170
 t210:=Tryz.underlying219
 a210:=Tryz.isAgg219
 z210:=Tryz.sizeOf219
 v210:=Tryz.zeroValue219
 t212:=Tryz.underlying212
 a212:=Tryz.isAgg212
 z212:=Tryz.sizeOf212
 v212:=Tryz.zeroValue212
 t213:=Tryz.underlying214
 a213:=Tryz.isAgg214
 z213:=Tryz.sizeOf214
 t232:=Tryz.underlying278
 a232:=Tryz.isAgg278
 z232:=Tryz.sizeOf278
 v232:=Tryz.zeroValue278
 t233:=Tryz.underlying279
 a233:=Tryz.isAgg279
 z233:=Tryz.sizeOf279
 v233:=Tryz.zeroValue279
 g15:=by kernel_rfl
 g16:=by kernel_rfl
 g17:=by kernel_rfl
 g18:=by kernel_rfl
 g19:=by kernel_rfl
 t80:=Tryz.underlying84
 a80:=Tryz.isAgg84
 z80:=Tryz.sizeOf84
 v80:=Tryz.zeroValue84
 i0:=by kernel_rfl
 i2:=by kernel_rfl
 i3:=by kernel_rfl
 i4:=by kernel_rfl
 i5:=by kernel_rfl
 i9:=by kernel_rfl
 i20:=by kernel_rfl
 i21:=by kernel_rfl
 i37:=by kernel_rfl
 i46:=by kernel_rfl
 i51:=by kernel_rfl
 i53:=by kernel_rfl
 i75:=by kernel_rfl
 i80:=by kernel_rfl
 i85:=by kernel_rfl
 i127:=by kernel_rfl
 i143:=by kernel_rfl
 i145:=by kernel_rfl
 i167:=by kernel_rfl
 i168:=by kernel_rfl
 i171:=by kernel_rfl
 i173:=by kernel_rfl
 i175:=by kernel_rfl
 i210:=by kernel_rfl
 i212:=by kernel_rfl
 i232:=by kernel_rfl
 i233:=by kernel_rfl
 m15:=by kernel_rfl
 m16:=by kernel_rfl
 m17:=by kernel_rfl
 m18:=by kernel_rfl
 m19:=by kernel_rfl
 c0:=by kernel_rfl
 c2:=by kernel_rfl
 c3:=by kernel_rfl
 c4:=by kernel_rfl
 c5:=by kernel_rfl
 c9:=by kernel_rfl
 c20:=by kernel_rfl
 c21:=by kernel_rfl
 c37:=by kernel_rfl
 c46:=by kernel_rfl
 c51:=by kernel_rfl
 c53:=by kernel_rfl
 c75:=by kernel_rfl
 c80:=by kernel_rfl
 c85:=by kernel_rfl
 c127:=by kernel_rfl
 c143:=by kernel_rfl
 c145:=by kernel_rfl
 c167:=by kernel_rfl
 c168:=by kernel_rfl
 c171:=by kernel_rfl
 c173:=by kernel_rfl
 c175:=by kernel_rfl
 c210:=by kernel_rfl
 c212:=by kernel_rfl
 c213:=by kernel_rfl
 c232:=by kernel_rfl
 c233:=by kernel_rfl }
open Go.RowKit in
theorem Tryz.strconv_ParseInt_10_at64_ok (s:ByteArray) (hmax:s.size<=9223372036854775806) (v:Int) (h:Lib.parseIntB 64 s.data.toList=.ok v) (w:World):
 Calls Tryz.prog 100 #[.string s,.int .i64 10,.int .i64 64] w fun e w'=>e=.returned (.tuple #[.int .i64 v,.nilIface])/\(w'=w\/∃ t,w'=Lib.bytesWorld w 5 t):=Any.strconv_ParseInt_10_at64_ok Tryz.laysC174 s hmax v h w
open Go.RowKit in
theorem Tryz.strconv_ParseInt_10_at64_range (s:ByteArray) (hlim:s.size<=281474976710656) (h:Lib.parseIntB 64 s.data.toList=.range) (ev:Value) (w:World) (hv:w.cell? ⟨5,0,none⟩=some ev) (hev:ev=.nilIface\/∃ te pe,ev=.iface te pe):
 Calls Tryz.prog 100 #[.string s,.int .i64 10,.int .i64 64] w fun e w'=>∃ N,e=.returned (.tuple #[.int .i64 (Lib.intSat 64 s.data.toList),.iface 172 (.pointer (some ⟨N,0,none⟩))])/\w.heap.size<=N/\w'.heap[N]? =some (.cells #[.string ⟨#[80,97,114,115,101,73,110,116]⟩,.string s,ev] 219 (0,0))/\Below w.heap.size w w':=Any.strconv_ParseInt_10_at64_range Tryz.laysC174 s hlim h ev w hv hev
def Tryz.lays99_ren:Go.Shelf.Ren:=⟨fun|99=>54|206=>80|n=>n,fun|9=>9|4=>4|3=>3|n=>n,fun|n=>n⟩
theorem Tryz.lays99:Go.Proofs.Lays.n99 Tryz.prog Tryz.lays99_ren:={
 mixed:=by kernel_rfl
 f99:=Tryz.func54.trans (congrArg some (by kernel_rfl))
 f206:=Tryz.func80.trans (congrArg some (by kernel_rfl))
 t3:=Tryz.underlying3
 a3:=Tryz.isAgg3
 z3:=Tryz.sizeOf3
 v3:=Tryz.zeroValue3
 t4:=Tryz.underlying4
 a4:=Tryz.isAgg4
 z4:=Tryz.sizeOf4
 v4:=Tryz.zeroValue4
 t9:=Tryz.underlying9
 a9:=Tryz.isAgg9
 z9:=Tryz.sizeOf9
 v9:=Tryz.zeroValue9 }
open Go.RowKit Go.Lib in
theorem Tryz.strings_HasPrefix (s p:ByteArray) (w:World):
 Calls Tryz.prog 54 #[.string s,.string p] w fun e w'=>e=.returned (.bool (Lib.hasPrefix s.data.toList p.data.toList))/\w'=w:=Any.strings_HasPrefix Tryz.lays99 s p w
def Tryz.lays146_ren:Go.Shelf.Ren:=⟨fun|146=>153|221=>191|268=>239|138=>119|143=>121|195=>149|197=>75|218=>150|219=>152|260=>96|217=>143|225=>115|224=>114|267=>190|266=>183|314=>238|n=>n,fun|9=>9|31=>38|3=>3|4=>4|0=>0|105=>120|21=>21|5=>5|46=>150|119=>149|139=>153|138=>152|146=>258|51=>213|n=>n,fun|1=>2|3=>0|4=>1|n=>n⟩
theorem Tryz.lays146:Go.Proofs.Lays.n146 Tryz.prog Tryz.lays146_ren:={
 mixed:=by kernel_rfl
 f138:=Tryz.func119.trans (congrArg some (by kernel_rfl))
 f143:=Tryz.func121.trans (congrArg some (by kernel_rfl))
 f146:=Tryz.func153.trans (congrArg some (by kernel_rfl))
 f195:=Tryz.func149.trans (congrArg some (by kernel_rfl))
 f197:=Tryz.func75.trans (congrArg some (by kernel_rfl))
 f217:=Tryz.func143.trans (congrArg some (by kernel_rfl))
 f218:=Tryz.func150.trans (congrArg some (by kernel_rfl))
 f219:=Tryz.func152.trans (congrArg some (by kernel_rfl))
 f221:=Tryz.func191.trans (congrArg some (by kernel_rfl))
 f224:=Tryz.func114.trans (congrArg some (by kernel_rfl))
 f225:=Tryz.func115.trans (congrArg some (by kernel_rfl))
 f260:=Tryz.func96.trans (congrArg some (by kernel_rfl))
 f266:=Tryz.func183.trans (congrArg some (by kernel_rfl))
 f267:=Tryz.func190.trans (congrArg some (by kernel_rfl))
 f268:=Tryz.func239.trans (congrArg some (by kernel_rfl))
 f314:=Tryz.func238.trans (congrArg some (by kernel_rfl))
 t0:=Tryz.underlying0
 a0:=Tryz.isAgg0
 z0:=Tryz.sizeOf0
 v0:=Tryz.zeroValue0
 t3:=Tryz.underlying3
 a3:=Tryz.isAgg3
 z3:=Tryz.sizeOf3
 v3:=Tryz.zeroValue3
 t4:=Tryz.underlying4
 a4:=Tryz.isAgg4
 z4:=Tryz.sizeOf4
 v4:=Tryz.zeroValue4
 t5:=Tryz.underlying5
 a5:=Tryz.isAgg5
 z5:=Tryz.sizeOf5
 v5:=Tryz.zeroValue5
 t9:=Tryz.underlying9
 a9:=Tryz.isAgg9
 z9:=Tryz.sizeOf9
 v9:=Tryz.zeroValue9
 t21:=Tryz.underlying21
 a21:=Tryz.isAgg21
 z21:=Tryz.sizeOf21
 v21:=Tryz.zeroValue21
 t31:=Tryz.underlying38
 a31:=Tryz.isAgg38
 z31:=Tryz.sizeOf38
 v31:=Tryz.zeroValue38
 t46:=Tryz.underlying150
 a46:=Tryz.isAgg150
 z46:=Tryz.sizeOf150
 v46:=Tryz.zeroValue150
 t51:=Tryz.underlying213
 a51:=Tryz.isAgg213
 z51:=Tryz.sizeOf213
 v51:=Tryz.zeroValue213
 t105:=Tryz.underlying120
 a105:=Tryz.isAgg120
 z105:=Tryz.sizeOf120
 v105:=Tryz.zeroValue120
 t119:=Tryz.underlying149
 a119:=Tryz.isAgg149
 z119:=Tryz.sizeOf149
 t138:=Tryz.underlying152
 a138:=Tryz.isAgg152
 z138:=Tryz.sizeOf152
 v138:=Tryz.zeroValue152
 t139:=Tryz.underlying153
 a139:=Tryz.isAgg153
 z139:=Tryz.sizeOf153
 v139:=Tryz.zeroValue153
 t146:=Tryz.underlying258
 a146:=Tryz.isAgg258
 z146:=Tryz.sizeOf258
 v146:=Tryz.zeroValue258
 g1:=by kernel_rfl
 g3:=by kernel_rfl
 g4:=by kernel_rfl }
open Go.RowKit Go.Lib in
theorem Tryz.strings_Split (s sep:ByteArray) (m:Int) (w:World) (hs:s.size<4294967281) (hm:w.cell? ⟨2,0,none⟩=some (.int .i64 m)) (h1:1<=sep.size):
 Calls Tryz.prog 153 #[.string s,.string sep] w fun e w'=>
  e=.returned (.slice (some ⟨w.heap.size,0,none⟩) (Lib.countB s sep+1) (Lib.countB s sep+1))/\w'=w.alloc (.cells ((Lib.splitB sep 0 (Lib.countB s sep) s).map Value.string).toArray 9):=Any.strings_Split Tryz.lays146 (by kernel_rfl) s sep m w hs hm h1
def Tryz.lays154_ren:Go.Shelf.Ren:=⟨fun|154=>101|138=>119|165=>120|143=>121|166=>65|197=>75|169=>34|195=>149|218=>150|240=>92|241=>151|219=>152|260=>96|276=>109|277=>189|217=>143|225=>115|224=>114|267=>190|266=>183|314=>238|n=>n,fun|9=>9|3=>3|4=>4|72=>81|0=>0|76=>116|105=>120|21=>21|5=>5|70=>78|20=>20|37=>79|75=>115|127=>113|164=>147|46=>150|119=>149|139=>153|138=>152|146=>258|51=>213|80=>84|n=>n,fun|1=>2|3=>0|4=>1|n=>n⟩
theorem Tryz.lays154:Go.Proofs.Lays.n154 Tryz.prog Tryz.lays154_ren:={
 mixed:=by kernel_rfl
 f138:=Tryz.func119.trans (congrArg some (by kernel_rfl))
 f143:=Tryz.func121.trans (congrArg some (by kernel_rfl))
 f154:=Tryz.func101.trans (congrArg some (by kernel_rfl))
 f165:=Tryz.func120.trans (congrArg some (by kernel_rfl))
 f166:=Tryz.func65.trans (congrArg some (by kernel_rfl))
 f169:=Tryz.func34.trans (congrArg some (by kernel_rfl))
 f195:=Tryz.func149.trans (congrArg some (by kernel_rfl))
 f197:=Tryz.func75.trans (congrArg some (by kernel_rfl))
 f217:=Tryz.func143.trans (congrArg some (by kernel_rfl))
 f218:=Tryz.func150.trans (congrArg some (by kernel_rfl))
 f219:=Tryz.func152.trans (congrArg some (by kernel_rfl))
 f224:=Tryz.func114.trans (congrArg some (by kernel_rfl))
 f225:=Tryz.func115.trans (congrArg some (by kernel_rfl))
 f240:=Tryz.func92.trans (congrArg some (by kernel_rfl))
 f241:=Tryz.func151.trans (congrArg some (by kernel_rfl))
 f260:=Tryz.func96.trans (congrArg some (by kernel_rfl))
 f266:=Tryz.func183.trans (congrArg some (by kernel_rfl))
 f267:=Tryz.func190.trans (congrArg some (by kernel_rfl))
 f276:=Tryz.func109.trans (congrArg some (by kernel_rfl))
 f277:=Tryz.func189.trans (congrArg some (by kernel_rfl))
 f314:=Tryz.func238.trans (congrArg some (by kernel_rfl))
 t0:=Tryz.underlying0
 a0:=Tryz.isAgg0
 z0:=Tryz.sizeOf0
 v0:=Tryz.zeroValue0
 t3:=Tryz.underlying3
 a3:=Tryz.isAgg3
 z3:=Tryz.sizeOf3
 v3:=Tryz.zeroValue3
 t4:=Tryz.underlying4
 a4:=Tryz.isAgg4
 z4:=Tryz.sizeOf4
 v4:=Tryz.zeroValue4
 t5:=Tryz.underlying5
 a5:=Tryz.isAgg5
 z5:=Tryz.sizeOf5
 v5:=Tryz.zeroValue5
 t9:=Tryz.underlying9
 a9:=Tryz.isAgg9
 z9:=Tryz.sizeOf9
 v9:=Tryz.zeroValue9
 t20:=Tryz.underlying20
 a20:=Tryz.isAgg20
 z20:=Tryz.sizeOf20
 v20:=Tryz.zeroValue20
 t21:=Tryz.underlying21
 a21:=Tryz.isAgg21
 z21:=Tryz.sizeOf21
 v21:=Tryz.zeroValue21
 t37:=Tryz.underlying79
 a37:=Tryz.isAgg79
 z37:=Tryz.sizeOf79
 v37:=Tryz.zeroValue79
 t46:=Tryz.underlying150
 a46:=Tryz.isAgg150
 z46:=Tryz.sizeOf150
 v46:=Tryz.zeroValue150
 t51:=Tryz.underlying213
 a51:=Tryz.isAgg213
 z51:=Tryz.sizeOf213
 v51:=Tryz.zeroValue213
 t70:=Tryz.underlying78
 a70:=Tryz.isAgg78
 z70:=Tryz.sizeOf78
 v70:=Tryz.zeroValue78
 t72:=Tryz.underlying81
 a72:=Tryz.isAgg81
 z72:=Tryz.sizeOf81
 v72:=Tryz.zeroValue81
 t75:=Tryz.underlying115
 a75:=Tryz.isAgg115
 z75:=Tryz.sizeOf115
 v75:=Tryz.zeroValue115
 t76:=Tryz.underlying116
 a76:=Tryz.isAgg116
 z76:=Tryz.sizeOf116
 v76:=Tryz.zeroValue116
 t105:=Tryz.underlying120
 a105:=Tryz.isAgg120
 z105:=Tryz.sizeOf120
 v105:=Tryz.zeroValue120
 t119:=Tryz.underlying149
 a119:=Tryz.isAgg149
 z119:=Tryz.sizeOf149
 t127:=Tryz.underlying113
 a127:=Tryz.isAgg113
 z127:=Tryz.sizeOf113
 v127:=Tryz.zeroValue113
 t138:=Tryz.underlying152
 a138:=Tryz.isAgg152
 z138:=Tryz.sizeOf152
 v138:=Tryz.zeroValue152
 t139:=Tryz.underlying153
 a139:=Tryz.isAgg153
 z139:=Tryz.sizeOf153
 v139:=Tryz.zeroValue153
 t146:=Tryz.underlying258
 a146:=Tryz.isAgg258
 z146:=Tryz.sizeOf258
 v146:=Tryz.zeroValue258
 t164:=Tryz.underlying147
 a164:=Tryz.isAgg147
 z164:=Tryz.sizeOf147
 v164:=Tryz.zeroValue147
 g1:=by kernel_rfl
 g3:=by kernel_rfl
 g4:=by kernel_rfl }
theorem Tryz.Builder_Extra_154:Builder.Extra Tryz.prog Tryz.lays154_ren:={
 sizeBuilder:=by kernel_rfl
 liesBuilder:=by kernel_rfl
 t5:=Tryz.underlying5
 a5:=Tryz.isAgg5
 z5:=Tryz.sizeOf5
 v5:=Tryz.zeroValue5
 infoByte:=by kernel_rfl
 cellsByte:=by kernel_rfl
 sizeByte:=by kernel_rfl
 neB5:=by decide }
open Go.RowKit Go.Lib in
theorem Tryz.strings_Replace (s old new:ByteArray) (n:Int) (m:Int) (w:World) (hs:s.size<4294967281) (hm:w.cell? ⟨2,0,none⟩=some (.int .i64 m)) (h1:1<=old.size) (hlen:s.size+Lib.countB s old*new.size<=140737488355328):
 Calls Tryz.prog 101 #[.string s,.string old,.string new,.int .i64 n] w fun e w'=>
  e=.returned (.string ⟨(Lib.replace s.data.toList old.data.toList new.data.toList n).toArray⟩)/\Below w.heap.size w w':=Any.strings_Replace Tryz.lays154 Tryz.Builder_Extra_154 s old new n m w hs hm h1 hlen
end Go.Proofs
