/- texts of the shelf. -/
import Derived.Shelf.Strings.Builder1
import Derived.Shelf.Strings.Builder2
import Derived.Shelf.Strings.OnBuilder
import Derived.Shelf.Small.Bits
import Derived.Shelf.Strings.BuilderF
import Derived.Shelf.Strings.BuilderK
import Derived.Shelf.Strconv.Itoa0
import Derived.Shelf.Strconv.Itoa1
import Derived.Shelf.LaysM
import Derived.Shelf.Strconv.Itoa2
import Derived.Shelf.Strconv.Itoa3
import Derived.Test.YtleamcmbhioedaaGreatDoorProg
namespace Go.Proofs
open Go.Shelf
def Tryz.lays169_ren:Go.Shelf.Ren:=⟨fun|169=>50|n=>n,fun|70=>94|9=>9|0=>0|72=>97|37=>95|127=>152|3=>3|5=>5|n=>n,fun|n=>n⟩
theorem Tryz.lays169:Go.Proofs.Lays.n169 Tryz.prog Tryz.lays169_ren:={
  mixed:=by kernel_rfl
  f169:=Tryz.func50.trans (congrArg some (by kernel_rfl))
  t0:=Tryz.underlying0
  a0:=Tryz.isAgg0
  z0:=Tryz.sizeOf0
  v0:=Tryz.zeroValue0
  t3:=Tryz.underlying3
  a3:=Tryz.isAgg3
  z3:=Tryz.sizeOf3
  v3:=Tryz.zeroValue3
  t9:=Tryz.underlying9
  a9:=Tryz.isAgg9
  z9:=Tryz.sizeOf9
  v9:=Tryz.zeroValue9
  t37:=Tryz.underlying95
  a37:=Tryz.isAgg95
  z37:=Tryz.sizeOf95
  v37:=Tryz.zeroValue95
  t70:=Tryz.underlying94
  a70:=Tryz.isAgg94
  z70:=Tryz.sizeOf94
  v70:=Tryz.zeroValue94
  t72:=Tryz.underlying97
  a72:=Tryz.isAgg97
  z72:=Tryz.sizeOf97
  v72:=Tryz.zeroValue97
  t127:=Tryz.underlying152
  a127:=Tryz.isAgg152
  z127:=Tryz.sizeOf152
  v127:=Tryz.zeroValue152}
theorem Tryz.Builder_Extra_169:Builder.Extra Tryz.prog Tryz.lays169_ren:={
  sizeBuilder:=by kernel_rfl
  liesBuilder:=by kernel_rfl
  t5:=Tryz.underlying5
  a5:=Tryz.isAgg5
  z5:=Tryz.sizeOf5
  v5:=Tryz.zeroValue5
  infoByte:=by kernel_rfl
  cellsByte:=by kernel_rfl
  sizeByte:=by kernel_rfl
  neB5:=by decide}
open Go.RowKit in
theorem Tryz.Builder_String_any (B b:Nat) (l:List UInt8) (w:World) (h:Lib.IsBuilder 97 5 B b (Lib.byteCells l) w) (hBw:B≤w.heap.size):
    Calls Tryz.prog 50 #[.pointer (some ⟨b,0,none⟩)] w fun e w'=>e= .returned (.string ⟨l.toArray⟩)∧Below B w w':=Any.Builder_String_any Tryz.lays169 Tryz.Builder_Extra_169 B b l w h hBw
def Tryz.lays156_ren:Go.Shelf.Ren:=⟨fun|156=>75|165=>107|166=>46|169=>50|240=>74|241=>140|276=>106|277=>153|n=>n,fun|31=>150|9=>9|3=>3|4=>4|0=>0|20=>20|72=>97|76=>101|70=>94|37=>95|75=>100|127=>152|164=>186|5=>5|80=>107|n=>n,fun|n=>n⟩
theorem Tryz.lays156:Go.Proofs.Lays.n156 Tryz.prog Tryz.lays156_ren:={
  mixed:=by kernel_rfl
  f156:=Tryz.func75.trans (congrArg some (by kernel_rfl))
  f165:=Tryz.func107.trans (congrArg some (by kernel_rfl))
  f166:=Tryz.func46.trans (congrArg some (by kernel_rfl))
  f169:=Tryz.func50.trans (congrArg some (by kernel_rfl))
  f240:=Tryz.func74.trans (congrArg some (by kernel_rfl))
  f241:=Tryz.func140.trans (congrArg some (by kernel_rfl))
  f276:=Tryz.func106.trans (congrArg some (by kernel_rfl))
  f277:=Tryz.func153.trans (congrArg some (by kernel_rfl))
  t0:=Tryz.underlying0
  a0:=Tryz.isAgg0
  z0:=Tryz.sizeOf0
  v0:=Tryz.zeroValue0
  t3:=Tryz.underlying3
  a3:=Tryz.isAgg3
  z3:=Tryz.sizeOf3
  v3:=Tryz.zeroValue3
  t4:=Tryz.underlying4
  a4:=Tryz.isAgg4
  z4:=Tryz.sizeOf4
  v4:=Tryz.zeroValue4
  t9:=Tryz.underlying9
  a9:=Tryz.isAgg9
  z9:=Tryz.sizeOf9
  v9:=Tryz.zeroValue9
  t20:=Tryz.underlying20
  a20:=Tryz.isAgg20
  z20:=Tryz.sizeOf20
  v20:=Tryz.zeroValue20
  t31:=Tryz.underlying150
  a31:=Tryz.isAgg150
  z31:=Tryz.sizeOf150
  v31:=Tryz.zeroValue150
  t37:=Tryz.underlying95
  a37:=Tryz.isAgg95
  z37:=Tryz.sizeOf95
  v37:=Tryz.zeroValue95
  t70:=Tryz.underlying94
  a70:=Tryz.isAgg94
  z70:=Tryz.sizeOf94
  v70:=Tryz.zeroValue94
  t72:=Tryz.underlying97
  a72:=Tryz.isAgg97
  z72:=Tryz.sizeOf97
  v72:=Tryz.zeroValue97
  t75:=Tryz.underlying100
  a75:=Tryz.isAgg100
  z75:=Tryz.sizeOf100
  v75:=Tryz.zeroValue100
  t76:=Tryz.underlying101
  a76:=Tryz.isAgg101
  z76:=Tryz.sizeOf101
  v76:=Tryz.zeroValue101
  t127:=Tryz.underlying152
  a127:=Tryz.isAgg152
  z127:=Tryz.sizeOf152
  v127:=Tryz.zeroValue152
  t164:=Tryz.underlying186
  a164:=Tryz.isAgg186
  z164:=Tryz.sizeOf186
  v164:=Tryz.zeroValue186}
theorem Tryz.Builder_Extra_156:Builder.Extra Tryz.prog Tryz.lays156_ren:={
  sizeBuilder:=by kernel_rfl
  liesBuilder:=by kernel_rfl
  t5:=Tryz.underlying5
  a5:=Tryz.isAgg5
  z5:=Tryz.sizeOf5
  v5:=Tryz.zeroValue5
  infoByte:=by kernel_rfl
  cellsByte:=by kernel_rfl
  sizeByte:=by kernel_rfl
  neB5:=by decide}
open Go.RowKit in
theorem Tryz.strings_Join_none (a:Option Addr) (c:Nat) (sep:ByteArray) (w:World):
    Calls Tryz.prog 75 #[.slice a 0 c, .string sep] w fun e w'=>e= .returned (.string ⟨#[]⟩)∧w'=w:=Any.strings_Join_none Tryz.lays156 Tryz.Builder_Extra_156 a c sep w
open Go.RowKit in
theorem Tryz.strings_Join (bk o c:Nat) (xs:List ByteArray) (sep:ByteArray) (w:World) (hcells:∀(j:Nat) x,xs[j]? =some x→w.cell? ⟨bk,o+j,none⟩=some (.string x)) (hbk:bk<w.heap.size) (hN:xs.length≤140737488355328) (hcap:xs.length≤c) (hlen:(Lib.join (xs.map (·.data.toList)) sep.data.toList).length≤140737488355328):
    Calls Tryz.prog 75 #[.slice (some ⟨bk,o,none⟩) xs.length c, .string sep] w fun e w'=>e= .returned (.string ⟨(Lib.join (xs.map (·.data.toList)) sep.data.toList).toArray⟩)∧Below w.heap.size w w':=Any.strings_Join Tryz.lays156 Tryz.Builder_Extra_156 bk o c xs sep w hcells hbk hN hcap hlen
def Tryz.laysM171_ren:Go.Shelf.Ren:=⟨fun|171=>48|243=>76|246=>108|283=>141|284=>142|285=>143|286=>144|129=>155|317=>154|318=>156|319=>157|320=>104|337=>138|338=>139|n=>n,fun|3=>3|9=>9|2=>2|4=>4|171=>220|0=>0|53=>219|37=>95|5=>5|173=>222|212=>235|51=>217|20=>20|213=>236|46=>91|232=>231|233=>232|n=>n,fun|17=>2|18=>0|19=>1|n=>n⟩
theorem Tryz.laysM171:Go.Proofs.LaysM.n171 Tryz.prog Tryz.laysM171_ren:={
  mixed:=by kernel_rfl
  f129:=Tryz.func155.trans (congrArg some (by kernel_rfl))
  f171:=Tryz.func48.trans (congrArg some (by kernel_rfl))
  f243:=Tryz.func76.trans (congrArg some (by kernel_rfl))
  f246:=Tryz.func108.trans (congrArg some (by kernel_rfl))
  f283:=Tryz.func141.trans (congrArg some (by kernel_rfl))
  f284:=Tryz.func142.trans (congrArg some (by kernel_rfl))
  f285:=Tryz.func143.trans (congrArg some (by kernel_rfl))
  f286:=Tryz.func144.trans (congrArg some (by kernel_rfl))
  f317:=Tryz.func154.trans (congrArg some (by kernel_rfl))
  f318:=Tryz.func156.trans (congrArg some (by kernel_rfl))
  f319:=Tryz.func157.trans (congrArg some (by kernel_rfl))
  f320:=Tryz.func104.trans (congrArg some (by kernel_rfl))
  f337:=Tryz.func138.trans (congrArg some (by kernel_rfl))
  f338:=Tryz.func139.trans (congrArg some (by kernel_rfl))
  t0:=Tryz.underlying0
  a0:=Tryz.isAgg0
  z0:=Tryz.sizeOf0
  v0:=Tryz.zeroValue0
  t2:=Tryz.underlying2
  a2:=Tryz.isAgg2
  z2:=Tryz.sizeOf2
  v2:=Tryz.zeroValue2
  t3:=Tryz.underlying3
  a3:=Tryz.isAgg3
  z3:=Tryz.sizeOf3
  v3:=Tryz.zeroValue3
  t4:=Tryz.underlying4
  a4:=Tryz.isAgg4
  z4:=Tryz.sizeOf4
  v4:=Tryz.zeroValue4
  t5:=Tryz.underlying5
  a5:=Tryz.isAgg5
  z5:=Tryz.sizeOf5
  v5:=Tryz.zeroValue5
  t9:=Tryz.underlying9
  a9:=Tryz.isAgg9
  z9:=Tryz.sizeOf9
  v9:=Tryz.zeroValue9
  t20:=Tryz.underlying20
  a20:=Tryz.isAgg20
  z20:=Tryz.sizeOf20
  v20:=Tryz.zeroValue20
  t37:=Tryz.underlying95
  a37:=Tryz.isAgg95
  z37:=Tryz.sizeOf95
  v37:=Tryz.zeroValue95
  t46:=Tryz.underlying91
  a46:=Tryz.isAgg91
  z46:=Tryz.sizeOf91
  v46:=Tryz.zeroValue91
  t51:=Tryz.underlying217
  a51:=Tryz.isAgg217
  z51:=Tryz.sizeOf217
  v51:=Tryz.zeroValue217
  t53:=Tryz.underlying219
  a53:=Tryz.isAgg219
  z53:=Tryz.sizeOf219
  v53:=Tryz.zeroValue219
  t171:=Tryz.underlying220
  a171:=Tryz.isAgg220
  z171:=Tryz.sizeOf220
  v171:=Tryz.zeroValue220
  t173:=Tryz.underlying222
  a173:=Tryz.isAgg222
  z173:=Tryz.sizeOf222
  v173:=Tryz.zeroValue222
  t212:=Tryz.underlying235
  a212:=Tryz.isAgg235
  z212:=Tryz.sizeOf235
  v212:=Tryz.zeroValue235
  t213:=Tryz.underlying236
  a213:=Tryz.isAgg236
  z213:=Tryz.sizeOf236
  t232:=Tryz.underlying231
  a232:=Tryz.isAgg231
  z232:=Tryz.sizeOf231
  v232:=Tryz.zeroValue231
  t233:=Tryz.underlying232
  a233:=Tryz.isAgg232
  z233:=Tryz.sizeOf232
  v233:=Tryz.zeroValue232
  g17:=by kernel_rfl
  g18:=by kernel_rfl
  g19:=by kernel_rfl
  i0:=by kernel_rfl
  i2:=by kernel_rfl
  i3:=by kernel_rfl
  i4:=by kernel_rfl
  i5:=by kernel_rfl
  i9:=by kernel_rfl
  i20:=by kernel_rfl
  i37:=by kernel_rfl
  i46:=by kernel_rfl
  i51:=by kernel_rfl
  i53:=by kernel_rfl
  i171:=by kernel_rfl
  i173:=by kernel_rfl
  i212:=by kernel_rfl
  i232:=by kernel_rfl
  i233:=by kernel_rfl
  m17:=by kernel_rfl
  m18:=by kernel_rfl
  m19:=by kernel_rfl}
open Go.RowKit Go.Sort Go.Lib in
theorem Tryz.strconv_Itoa (n:Int) (h0: -9223372036854775808≤n) (h1:n≤9223372036854775807) (w:World) (htab:Lib.TabIs Tryz.prog w "internal/strconv.uint64pow10" .u64 Lib.pow10Tab):
    Calls Tryz.prog 48 #[.int .i64 n] w fun e w'=>e= .returned (.string ⟨(Lib.itoa n).toArray⟩)∧∃k os,w'=grow (w.drewN k) os:=Any.strconv_Itoa Tryz.laysM171 n h0 h1 w htab
end Go.Proofs
