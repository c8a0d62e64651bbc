/- texts of the shelf. -/
import Derived.Shelf.Strings.Builder1
import Derived.Shelf.Strings.Builder2
import Derived.Shelf.Strings.OnBuilder
import Derived.Shelf.Small.Bits
import Derived.Shelf.Small.Strs
import Derived.Shelf.Strings.BuilderF
import Derived.Shelf.Strings.BuilderK
import Derived.Shelf.Strings.Builder2Cap
import Derived.Shelf.Strconv.Itoa0
import Derived.Shelf.Strconv.Itoa1
import Derived.Shelf.LaysM
import Derived.Shelf.Strconv.Itoa2
import Derived.Shelf.Strconv.Itoa3
import Derived.Shelf.Strings.Search1
import Derived.Shelf.Strings.Search2
import Derived.Shelf.Strings.Search3
import Derived.Shelf.Strings.Count
import Derived.Shelf.Strings.Shaped
import Derived.Shelf.Unicode.DecodeSlow
import Derived.Shelf.Strings.BuilderCap
import Derived.Shelf.Slices.Turned
import Derived.Test.YtffbilcjhlncfaaGreatDoorProg
namespace Go.Proofs
open Go.Shelf
def Tryz.lays169_ren:Go.Shelf.Ren:=⟨fun|169=>81|n=>n,fun|70=>142|9=>9|0=>0|72=>145|37=>143|127=>211|3=>3|5=>5|n=>n,fun|n=>n⟩
theorem Tryz.lays169:Go.Proofs.Lays.n169 Tryz.prog Tryz.lays169_ren:={
  mixed:=by kernel_rfl
  f169:=Tryz.func81.trans (congrArg some (by kernel_rfl))
  t0:=Tryz.underlying0
  a0:=Tryz.isAgg0
  z0:=Tryz.sizeOf0
  v0:=Tryz.zeroValue0
  t3:=Tryz.underlying3
  a3:=Tryz.isAgg3
  z3:=Tryz.sizeOf3
  v3:=Tryz.zeroValue3
  t9:=Tryz.underlying9
  a9:=Tryz.isAgg9
  z9:=Tryz.sizeOf9
  v9:=Tryz.zeroValue9
  t37:=Tryz.underlying143
  a37:=Tryz.isAgg143
  z37:=Tryz.sizeOf143
  v37:=Tryz.zeroValue143
  t70:=Tryz.underlying142
  a70:=Tryz.isAgg142
  z70:=Tryz.sizeOf142
  v70:=Tryz.zeroValue142
  t72:=Tryz.underlying145
  a72:=Tryz.isAgg145
  z72:=Tryz.sizeOf145
  v72:=Tryz.zeroValue145
  t127:=Tryz.underlying211
  a127:=Tryz.isAgg211
  z127:=Tryz.sizeOf211
  v127:=Tryz.zeroValue211}
theorem Tryz.Builder_Extra_169:Builder.Extra Tryz.prog Tryz.lays169_ren:={
  sizeBuilder:=by kernel_rfl
  liesBuilder:=by kernel_rfl
  t5:=Tryz.underlying5
  a5:=Tryz.isAgg5
  z5:=Tryz.sizeOf5
  v5:=Tryz.zeroValue5
  infoByte:=by kernel_rfl
  cellsByte:=by kernel_rfl
  sizeByte:=by kernel_rfl
  neB5:=by decide}
open Go.RowKit in
theorem Tryz.Builder_String_any (B b:Nat) (l:List UInt8) (w:World) (h:Lib.IsBuilder 145 5 B b (Lib.byteCells l) w) (hBw:B≤w.heap.size):
    Calls Tryz.prog 81 #[.pointer (some ⟨b,0,none⟩)] w fun e w'=>e= .returned (.string ⟨l.toArray⟩)∧Below B w w':=Any.Builder_String_any Tryz.lays169 Tryz.Builder_Extra_169 B b l w h hBw
def Tryz.lays156_ren:Go.Shelf.Ren:=⟨fun|156=>127|165=>173|166=>77|169=>81|240=>126|241=>214|276=>172|277=>242|n=>n,fun|31=>132|9=>9|3=>3|4=>4|0=>0|20=>20|72=>145|76=>137|70=>142|37=>143|75=>136|127=>211|164=>256|5=>5|80=>150|n=>n,fun|n=>n⟩
theorem Tryz.lays156:Go.Proofs.Lays.n156 Tryz.prog Tryz.lays156_ren:={
  mixed:=by kernel_rfl
  f156:=Tryz.func127.trans (congrArg some (by kernel_rfl))
  f165:=Tryz.func173.trans (congrArg some (by kernel_rfl))
  f166:=Tryz.func77.trans (congrArg some (by kernel_rfl))
  f169:=Tryz.func81.trans (congrArg some (by kernel_rfl))
  f240:=Tryz.func126.trans (congrArg some (by kernel_rfl))
  f241:=Tryz.func214.trans (congrArg some (by kernel_rfl))
  f276:=Tryz.func172.trans (congrArg some (by kernel_rfl))
  f277:=Tryz.func242.trans (congrArg some (by kernel_rfl))
  t0:=Tryz.underlying0
  a0:=Tryz.isAgg0
  z0:=Tryz.sizeOf0
  v0:=Tryz.zeroValue0
  t3:=Tryz.underlying3
  a3:=Tryz.isAgg3
  z3:=Tryz.sizeOf3
  v3:=Tryz.zeroValue3
  t4:=Tryz.underlying4
  a4:=Tryz.isAgg4
  z4:=Tryz.sizeOf4
  v4:=Tryz.zeroValue4
  t9:=Tryz.underlying9
  a9:=Tryz.isAgg9
  z9:=Tryz.sizeOf9
  v9:=Tryz.zeroValue9
  t20:=Tryz.underlying20
  a20:=Tryz.isAgg20
  z20:=Tryz.sizeOf20
  v20:=Tryz.zeroValue20
  t31:=Tryz.underlying132
  a31:=Tryz.isAgg132
  z31:=Tryz.sizeOf132
  v31:=Tryz.zeroValue132
  t37:=Tryz.underlying143
  a37:=Tryz.isAgg143
  z37:=Tryz.sizeOf143
  v37:=Tryz.zeroValue143
  t70:=Tryz.underlying142
  a70:=Tryz.isAgg142
  z70:=Tryz.sizeOf142
  v70:=Tryz.zeroValue142
  t72:=Tryz.underlying145
  a72:=Tryz.isAgg145
  z72:=Tryz.sizeOf145
  v72:=Tryz.zeroValue145
  t75:=Tryz.underlying136
  a75:=Tryz.isAgg136
  z75:=Tryz.sizeOf136
  v75:=Tryz.zeroValue136
  t76:=Tryz.underlying137
  a76:=Tryz.isAgg137
  z76:=Tryz.sizeOf137
  v76:=Tryz.zeroValue137
  t127:=Tryz.underlying211
  a127:=Tryz.isAgg211
  z127:=Tryz.sizeOf211
  v127:=Tryz.zeroValue211
  t164:=Tryz.underlying256
  a164:=Tryz.isAgg256
  z164:=Tryz.sizeOf256
  v164:=Tryz.zeroValue256}
theorem Tryz.Builder_Extra_156:Builder.Extra Tryz.prog Tryz.lays156_ren:={
  sizeBuilder:=by kernel_rfl
  liesBuilder:=by kernel_rfl
  t5:=Tryz.underlying5
  a5:=Tryz.isAgg5
  z5:=Tryz.sizeOf5
  v5:=Tryz.zeroValue5
  infoByte:=by kernel_rfl
  cellsByte:=by kernel_rfl
  sizeByte:=by kernel_rfl
  neB5:=by decide}
open Go.RowKit in
theorem Tryz.strings_Join_none (a:Option Addr) (c:Nat) (sep:ByteArray) (w:World):
    Calls Tryz.prog 127 #[.slice a 0 c, .string sep] w fun e w'=>e= .returned (.string ⟨#[]⟩)∧w'=w:=Any.strings_Join_none Tryz.lays156 Tryz.Builder_Extra_156 a c sep w
open Go.RowKit in
theorem Tryz.strings_Join (bk o c:Nat) (xs:List ByteArray) (sep:ByteArray) (w:World) (hcells:∀(j:Nat) x,xs[j]? =some x→w.cell? ⟨bk,o+j,none⟩=some (.string x)) (hbk:bk<w.heap.size) (hN:xs.length≤140737488355328) (hcap:xs.length≤c) (hlen:(Lib.join (xs.map (·.data.toList)) sep.data.toList).length≤140737488355328):
    Calls Tryz.prog 127 #[.slice (some ⟨bk,o,none⟩) xs.length c, .string sep] w fun e w'=>e= .returned (.string ⟨(Lib.join (xs.map (·.data.toList)) sep.data.toList).toArray⟩)∧Below w.heap.size w w':=Any.strings_Join Tryz.lays156 Tryz.Builder_Extra_156 bk o c xs sep w hcells hbk hN hcap hlen
def Tryz.laysM171_ren:Go.Shelf.Ren:=⟨fun|171=>79|243=>128|246=>174|283=>215|284=>216|285=>217|286=>218|129=>244|317=>243|318=>245|319=>246|320=>134|337=>184|338=>185|n=>n,fun|3=>3|9=>9|2=>2|4=>4|171=>300|0=>0|53=>244|37=>143|5=>5|173=>302|212=>327|51=>242|20=>20|213=>328|46=>83|232=>315|233=>316|n=>n,fun|17=>5|18=>2|19=>3|n=>n⟩
theorem Tryz.laysM171:Go.Proofs.LaysM.n171 Tryz.prog Tryz.laysM171_ren:={
  mixed:=by kernel_rfl
  f129:=Tryz.func244.trans (congrArg some (by kernel_rfl))
  f171:=Tryz.func79.trans (congrArg some (by kernel_rfl))
  f243:=Tryz.func128.trans (congrArg some (by kernel_rfl))
  f246:=Tryz.func174.trans (congrArg some (by kernel_rfl))
  f283:=Tryz.func215.trans (congrArg some (by kernel_rfl))
  f284:=Tryz.func216.trans (congrArg some (by kernel_rfl))
  f285:=Tryz.func217.trans (congrArg some (by kernel_rfl))
  f286:=Tryz.func218.trans (congrArg some (by kernel_rfl))
  f317:=Tryz.func243.trans (congrArg some (by kernel_rfl))
  f318:=Tryz.func245.trans (congrArg some (by kernel_rfl))
  f319:=Tryz.func246.trans (congrArg some (by kernel_rfl))
  f320:=Tryz.func134.trans (congrArg some (by kernel_rfl))
  f337:=Tryz.func184.trans (congrArg some (by kernel_rfl))
  f338:=Tryz.func185.trans (congrArg some (by kernel_rfl))
  t0:=Tryz.underlying0
  a0:=Tryz.isAgg0
  z0:=Tryz.sizeOf0
  v0:=Tryz.zeroValue0
  t2:=Tryz.underlying2
  a2:=Tryz.isAgg2
  z2:=Tryz.sizeOf2
  v2:=Tryz.zeroValue2
  t3:=Tryz.underlying3
  a3:=Tryz.isAgg3
  z3:=Tryz.sizeOf3
  v3:=Tryz.zeroValue3
  t4:=Tryz.underlying4
  a4:=Tryz.isAgg4
  z4:=Tryz.sizeOf4
  v4:=Tryz.zeroValue4
  t5:=Tryz.underlying5
  a5:=Tryz.isAgg5
  z5:=Tryz.sizeOf5
  v5:=Tryz.zeroValue5
  t9:=Tryz.underlying9
  a9:=Tryz.isAgg9
  z9:=Tryz.sizeOf9
  v9:=Tryz.zeroValue9
  t20:=Tryz.underlying20
  a20:=Tryz.isAgg20
  z20:=Tryz.sizeOf20
  v20:=Tryz.zeroValue20
  t37:=Tryz.underlying143
  a37:=Tryz.isAgg143
  z37:=Tryz.sizeOf143
  v37:=Tryz.zeroValue143
  t46:=Tryz.underlying83
  a46:=Tryz.isAgg83
  z46:=Tryz.sizeOf83
  v46:=Tryz.zeroValue83
  t51:=Tryz.underlying242
  a51:=Tryz.isAgg242
  z51:=Tryz.sizeOf242
  v51:=Tryz.zeroValue242
  t53:=Tryz.underlying244
  a53:=Tryz.isAgg244
  z53:=Tryz.sizeOf244
  v53:=Tryz.zeroValue244
  t171:=Tryz.underlying300
  a171:=Tryz.isAgg300
  z171:=Tryz.sizeOf300
  v171:=Tryz.zeroValue300
  t173:=Tryz.underlying302
  a173:=Tryz.isAgg302
  z173:=Tryz.sizeOf302
  v173:=Tryz.zeroValue302
  t212:=Tryz.underlying327
  a212:=Tryz.isAgg327
  z212:=Tryz.sizeOf327
  v212:=Tryz.zeroValue327
  t213:=Tryz.underlying328
  a213:=Tryz.isAgg328
  z213:=Tryz.sizeOf328
  t232:=Tryz.underlying315
  a232:=Tryz.isAgg315
  z232:=Tryz.sizeOf315
  v232:=Tryz.zeroValue315
  t233:=Tryz.underlying316
  a233:=Tryz.isAgg316
  z233:=Tryz.sizeOf316
  v233:=Tryz.zeroValue316
  g17:=by kernel_rfl
  g18:=by kernel_rfl
  g19:=by kernel_rfl
  i0:=by kernel_rfl
  i2:=by kernel_rfl
  i3:=by kernel_rfl
  i4:=by kernel_rfl
  i5:=by kernel_rfl
  i9:=by kernel_rfl
  i20:=by kernel_rfl
  i37:=by kernel_rfl
  i46:=by kernel_rfl
  i51:=by kernel_rfl
  i53:=by kernel_rfl
  i171:=by kernel_rfl
  i173:=by kernel_rfl
  i212:=by kernel_rfl
  i232:=by kernel_rfl
  i233:=by kernel_rfl
  m17:=by kernel_rfl
  m18:=by kernel_rfl
  m19:=by kernel_rfl}
open Go.RowKit Go.Sort Go.Lib in
theorem Tryz.strconv_Itoa (n:Int) (h0: -9223372036854775808≤n) (h1:n≤9223372036854775807) (w:World) (htab:Lib.TabIs Tryz.prog w "internal/strconv.uint64pow10" .u64 Lib.pow10Tab):
    Calls Tryz.prog 79 #[.int .i64 n] w fun e w'=>e= .returned (.string ⟨(Lib.itoa n).toArray⟩)∧∃k os,w'=grow (w.drewN k) os:=Any.strconv_Itoa Tryz.laysM171 n h0 h1 w htab
end Go.Proofs
