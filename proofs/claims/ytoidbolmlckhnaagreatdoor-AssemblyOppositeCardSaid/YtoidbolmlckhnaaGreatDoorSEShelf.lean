/- texts of the shelf. -/
import Derived.Shelf.Strings.Builder1
import Derived.Shelf.Strings.Builder2
import Derived.Shelf.Strings.OnBuilder
import Derived.Shelf.Small.Bits
import Derived.Shelf.Strings.BuilderF
import Derived.Shelf.Strings.BuilderK
import Derived.Shelf.Strings.Builder2Cap
import Derived.Shelf.Strconv.Itoa0
import Derived.Shelf.Strconv.Itoa1
import Derived.Shelf.LaysM
import Derived.Shelf.Strconv.Itoa2
import Derived.Shelf.Strconv.Itoa3
import Derived.Shelf.Strings.BuilderCap
import Derived.Test.YtoidbolmlckhnaaGreatDoorProg
namespace Go.Proofs
open Go.Shelf
def Tryz.lays169_ren:Go.Shelf.Ren:=⟨fun|169=>80|n=>n,fun|70=>137|9=>9|0=>0|72=>140|37=>138|127=>182|3=>3|5=>5|n=>n,fun|n=>n⟩
theorem Tryz.lays169:Go.Proofs.Lays.n169 Tryz.prog Tryz.lays169_ren:={
  mixed:=by kernel_rfl
  f169:=Tryz.func80.trans (congrArg some (by kernel_rfl))
  t0:=Tryz.underlying0
  a0:=Tryz.isAgg0
  z0:=Tryz.sizeOf0
  v0:=Tryz.zeroValue0
  t3:=Tryz.underlying3
  a3:=Tryz.isAgg3
  z3:=Tryz.sizeOf3
  v3:=Tryz.zeroValue3
  t9:=Tryz.underlying9
  a9:=Tryz.isAgg9
  z9:=Tryz.sizeOf9
  v9:=Tryz.zeroValue9
  t37:=Tryz.underlying138
  a37:=Tryz.isAgg138
  z37:=Tryz.sizeOf138
  v37:=Tryz.zeroValue138
  t70:=Tryz.underlying137
  a70:=Tryz.isAgg137
  z70:=Tryz.sizeOf137
  v70:=Tryz.zeroValue137
  t72:=Tryz.underlying140
  a72:=Tryz.isAgg140
  z72:=Tryz.sizeOf140
  v72:=Tryz.zeroValue140
  t127:=Tryz.underlying182
  a127:=Tryz.isAgg182
  z127:=Tryz.sizeOf182
  v127:=Tryz.zeroValue182}
theorem Tryz.Builder_Extra_169:Builder.Extra Tryz.prog Tryz.lays169_ren:={
  sizeBuilder:=by kernel_rfl
  liesBuilder:=by kernel_rfl
  t5:=Tryz.underlying5
  a5:=Tryz.isAgg5
  z5:=Tryz.sizeOf5
  v5:=Tryz.zeroValue5
  infoByte:=by kernel_rfl
  cellsByte:=by kernel_rfl
  sizeByte:=by kernel_rfl
  neB5:=by decide}
open Go.RowKit in
theorem Tryz.Builder_String_any (B b:Nat) (l:List UInt8) (w:World) (h:Lib.IsBuilder 140 5 B b (Lib.byteCells l) w) (hBw:B≤w.heap.size):
    Calls Tryz.prog 80 #[.pointer (some ⟨b,0,none⟩)] w fun e w'=>e= .returned (.string ⟨l.toArray⟩)∧Below B w w':=Any.Builder_String_any Tryz.lays169 Tryz.Builder_Extra_169 B b l w h hBw
def Tryz.lays156_ren:Go.Shelf.Ren:=⟨fun|156=>100|165=>126|166=>76|169=>80|240=>99|241=>154|276=>125|277=>173|n=>n,fun|31=>180|9=>9|3=>3|4=>4|0=>0|20=>20|72=>140|76=>144|70=>137|37=>138|75=>143|127=>182|164=>215|5=>5|80=>149|n=>n,fun|n=>n⟩
theorem Tryz.lays156:Go.Proofs.Lays.n156 Tryz.prog Tryz.lays156_ren:={
  mixed:=by kernel_rfl
  f156:=Tryz.func100.trans (congrArg some (by kernel_rfl))
  f165:=Tryz.func126.trans (congrArg some (by kernel_rfl))
  f166:=Tryz.func76.trans (congrArg some (by kernel_rfl))
  f169:=Tryz.func80.trans (congrArg some (by kernel_rfl))
  f240:=Tryz.func99.trans (congrArg some (by kernel_rfl))
  f241:=Tryz.func154.trans (congrArg some (by kernel_rfl))
  f276:=Tryz.func125.trans (congrArg some (by kernel_rfl))
  f277:=Tryz.func173.trans (congrArg some (by kernel_rfl))
  t0:=Tryz.underlying0
  a0:=Tryz.isAgg0
  z0:=Tryz.sizeOf0
  v0:=Tryz.zeroValue0
  t3:=Tryz.underlying3
  a3:=Tryz.isAgg3
  z3:=Tryz.sizeOf3
  v3:=Tryz.zeroValue3
  t4:=Tryz.underlying4
  a4:=Tryz.isAgg4
  z4:=Tryz.sizeOf4
  v4:=Tryz.zeroValue4
  t9:=Tryz.underlying9
  a9:=Tryz.isAgg9
  z9:=Tryz.sizeOf9
  v9:=Tryz.zeroValue9
  t20:=Tryz.underlying20
  a20:=Tryz.isAgg20
  z20:=Tryz.sizeOf20
  v20:=Tryz.zeroValue20
  t31:=Tryz.underlying180
  a31:=Tryz.isAgg180
  z31:=Tryz.sizeOf180
  v31:=Tryz.zeroValue180
  t37:=Tryz.underlying138
  a37:=Tryz.isAgg138
  z37:=Tryz.sizeOf138
  v37:=Tryz.zeroValue138
  t70:=Tryz.underlying137
  a70:=Tryz.isAgg137
  z70:=Tryz.sizeOf137
  v70:=Tryz.zeroValue137
  t72:=Tryz.underlying140
  a72:=Tryz.isAgg140
  z72:=Tryz.sizeOf140
  v72:=Tryz.zeroValue140
  t75:=Tryz.underlying143
  a75:=Tryz.isAgg143
  z75:=Tryz.sizeOf143
  v75:=Tryz.zeroValue143
  t76:=Tryz.underlying144
  a76:=Tryz.isAgg144
  z76:=Tryz.sizeOf144
  v76:=Tryz.zeroValue144
  t127:=Tryz.underlying182
  a127:=Tryz.isAgg182
  z127:=Tryz.sizeOf182
  v127:=Tryz.zeroValue182
  t164:=Tryz.underlying215
  a164:=Tryz.isAgg215
  z164:=Tryz.sizeOf215
  v164:=Tryz.zeroValue215}
theorem Tryz.Builder_Extra_156:Builder.Extra Tryz.prog Tryz.lays156_ren:={
  sizeBuilder:=by kernel_rfl
  liesBuilder:=by kernel_rfl
  t5:=Tryz.underlying5
  a5:=Tryz.isAgg5
  z5:=Tryz.sizeOf5
  v5:=Tryz.zeroValue5
  infoByte:=by kernel_rfl
  cellsByte:=by kernel_rfl
  sizeByte:=by kernel_rfl
  neB5:=by decide}
open Go.RowKit in
theorem Tryz.strings_Join_none (a:Option Addr) (c:Nat) (sep:ByteArray) (w:World):
    Calls Tryz.prog 100 #[.slice a 0 c, .string sep] w fun e w'=>e= .returned (.string ⟨#[]⟩)∧w'=w:=Any.strings_Join_none Tryz.lays156 Tryz.Builder_Extra_156 a c sep w
open Go.RowKit in
theorem Tryz.strings_Join (bk o c:Nat) (xs:List ByteArray) (sep:ByteArray) (w:World) (hcells:∀(j:Nat) x,xs[j]? =some x→w.cell? ⟨bk,o+j,none⟩=some (.string x)) (hbk:bk<w.heap.size) (hN:xs.length≤140737488355328) (hcap:xs.length≤c) (hlen:(Lib.join (xs.map (·.data.toList)) sep.data.toList).length≤140737488355328):
    Calls Tryz.prog 100 #[.slice (some ⟨bk,o,none⟩) xs.length c, .string sep] w fun e w'=>e= .returned (.string ⟨(Lib.join (xs.map (·.data.toList)) sep.data.toList).toArray⟩)∧Below w.heap.size w w':=Any.strings_Join Tryz.lays156 Tryz.Builder_Extra_156 bk o c xs sep w hcells hbk hN hcap hlen
def Tryz.laysM171_ren:Go.Shelf.Ren:=⟨fun|171=>78|243=>101|246=>127|283=>155|284=>156|285=>157|286=>158|129=>175|317=>174|318=>176|319=>177|320=>93|337=>118|338=>119|n=>n,fun|3=>3|9=>9|2=>2|4=>4|171=>241|0=>0|53=>209|37=>138|5=>5|173=>243|212=>261|51=>207|20=>20|213=>262|46=>114|232=>239|233=>240|n=>n,fun|17=>2|18=>0|19=>1|n=>n⟩
theorem Tryz.laysM171:Go.Proofs.LaysM.n171 Tryz.prog Tryz.laysM171_ren:={
  mixed:=by kernel_rfl
  f129:=Tryz.func175.trans (congrArg some (by kernel_rfl))
  f171:=Tryz.func78.trans (congrArg some (by kernel_rfl))
  f243:=Tryz.func101.trans (congrArg some (by kernel_rfl))
  f246:=Tryz.func127.trans (congrArg some (by kernel_rfl))
  f283:=Tryz.func155.trans (congrArg some (by kernel_rfl))
  f284:=Tryz.func156.trans (congrArg some (by kernel_rfl))
  f285:=Tryz.func157.trans (congrArg some (by kernel_rfl))
  f286:=Tryz.func158.trans (congrArg some (by kernel_rfl))
  f317:=Tryz.func174.trans (congrArg some (by kernel_rfl))
  f318:=Tryz.func176.trans (congrArg some (by kernel_rfl))
  f319:=Tryz.func177.trans (congrArg some (by kernel_rfl))
  f320:=Tryz.func93.trans (congrArg some (by kernel_rfl))
  f337:=Tryz.func118.trans (congrArg some (by kernel_rfl))
  f338:=Tryz.func119.trans (congrArg some (by kernel_rfl))
  t0:=Tryz.underlying0
  a0:=Tryz.isAgg0
  z0:=Tryz.sizeOf0
  v0:=Tryz.zeroValue0
  t2:=Tryz.underlying2
  a2:=Tryz.isAgg2
  z2:=Tryz.sizeOf2
  v2:=Tryz.zeroValue2
  t3:=Tryz.underlying3
  a3:=Tryz.isAgg3
  z3:=Tryz.sizeOf3
  v3:=Tryz.zeroValue3
  t4:=Tryz.underlying4
  a4:=Tryz.isAgg4
  z4:=Tryz.sizeOf4
  v4:=Tryz.zeroValue4
  t5:=Tryz.underlying5
  a5:=Tryz.isAgg5
  z5:=Tryz.sizeOf5
  v5:=Tryz.zeroValue5
  t9:=Tryz.underlying9
  a9:=Tryz.isAgg9
  z9:=Tryz.sizeOf9
  v9:=Tryz.zeroValue9
  t20:=Tryz.underlying20
  a20:=Tryz.isAgg20
  z20:=Tryz.sizeOf20
  v20:=Tryz.zeroValue20
  t37:=Tryz.underlying138
  a37:=Tryz.isAgg138
  z37:=Tryz.sizeOf138
  v37:=Tryz.zeroValue138
  t46:=Tryz.underlying114
  a46:=Tryz.isAgg114
  z46:=Tryz.sizeOf114
  v46:=Tryz.zeroValue114
  t51:=Tryz.underlying207
  a51:=Tryz.isAgg207
  z51:=Tryz.sizeOf207
  v51:=Tryz.zeroValue207
  t53:=Tryz.underlying209
  a53:=Tryz.isAgg209
  z53:=Tryz.sizeOf209
  v53:=Tryz.zeroValue209
  t171:=Tryz.underlying241
  a171:=Tryz.isAgg241
  z171:=Tryz.sizeOf241
  v171:=Tryz.zeroValue241
  t173:=Tryz.underlying243
  a173:=Tryz.isAgg243
  z173:=Tryz.sizeOf243
  v173:=Tryz.zeroValue243
  t212:=Tryz.underlying261
  a212:=Tryz.isAgg261
  z212:=Tryz.sizeOf261
  v212:=Tryz.zeroValue261
  t213:=Tryz.underlying262
  a213:=Tryz.isAgg262
  z213:=Tryz.sizeOf262
  t232:=Tryz.underlying239
  a232:=Tryz.isAgg239
  z232:=Tryz.sizeOf239
  v232:=Tryz.zeroValue239
  t233:=Tryz.underlying240
  a233:=Tryz.isAgg240
  z233:=Tryz.sizeOf240
  v233:=Tryz.zeroValue240
  g17:=by kernel_rfl
  g18:=by kernel_rfl
  g19:=by kernel_rfl
  i0:=by kernel_rfl
  i2:=by kernel_rfl
  i3:=by kernel_rfl
  i4:=by kernel_rfl
  i5:=by kernel_rfl
  i9:=by kernel_rfl
  i20:=by kernel_rfl
  i37:=by kernel_rfl
  i46:=by kernel_rfl
  i51:=by kernel_rfl
  i53:=by kernel_rfl
  i171:=by kernel_rfl
  i173:=by kernel_rfl
  i212:=by kernel_rfl
  i232:=by kernel_rfl
  i233:=by kernel_rfl
  m17:=by kernel_rfl
  m18:=by kernel_rfl
  m19:=by kernel_rfl}
open Go.RowKit Go.Sort Go.Lib in
theorem Tryz.strconv_Itoa (n:Int) (h0: -9223372036854775808≤n) (h1:n≤9223372036854775807) (w:World) (htab:Lib.TabIs Tryz.prog w "internal/strconv.uint64pow10" .u64 Lib.pow10Tab):
    Calls Tryz.prog 78 #[.int .i64 n] w fun e w'=>e= .returned (.string ⟨(Lib.itoa n).toArray⟩)∧∃k os,w'=grow (w.drewN k) os:=Any.strconv_Itoa Tryz.laysM171 n h0 h1 w htab
end Go.Proofs
