/- texts of the shelf. -/
import Derived.Shelf.Strings.Builder1
import Derived.Shelf.Strings.Builder2
import Derived.Shelf.Strings.OnBuilder
import Derived.Shelf.Small.Bits
import Derived.Shelf.Strconv.Itoa0
import Derived.Shelf.Strconv.Itoa1
import Derived.Shelf.LaysM
import Derived.Shelf.Strconv.Itoa2
import Derived.Shelf.Strconv.Itoa3
import Derived.Ground.Names2Prog
import Derived.Shelf.Slices.Clone
import Derived.Ground.SlgnProg
import Derived.Shelf.SlicesE.Clone
import Derived.Test.YtokhkhnofkcalaaGreatDoorProg
namespace Go.Proofs
open Go.Shelf
def Tryz.lays156_ren:Go.Shelf.Ren:=⟨fun|156=>65|165=>116|166=>117|169=>118|240=>154|241=>155|276=>176|277=>177|n=>n,fun|31=>96|9=>9|3=>3|4=>4|0=>0|20=>20|72=>149|76=>153|70=>146|37=>147|75=>152|127=>196|164=>211|5=>5|80=>155|n=>n,fun|n=>n⟩
theorem Tryz.lays156:Go.Proofs.Lays.n156 Tryz.prog Tryz.lays156_ren:={
  mixed:=by kernel_rfl
  f156:=Tryz.func65.trans (congrArg some (by kernel_rfl))
  f165:=Tryz.func116.trans (congrArg some (by kernel_rfl))
  f166:=Tryz.func117.trans (congrArg some (by kernel_rfl))
  f169:=Tryz.func118.trans (congrArg some (by kernel_rfl))
  f240:=Tryz.func154.trans (congrArg some (by kernel_rfl))
  f241:=Tryz.func155.trans (congrArg some (by kernel_rfl))
  f276:=Tryz.func176.trans (congrArg some (by kernel_rfl))
  f277:=Tryz.func177.trans (congrArg some (by kernel_rfl))
  t0:=Tryz.underlying0
  a0:=Tryz.isAgg0
  z0:=Tryz.sizeOf0
  v0:=Tryz.zeroValue0
  t3:=Tryz.underlying3
  a3:=Tryz.isAgg3
  z3:=Tryz.sizeOf3
  v3:=Tryz.zeroValue3
  t4:=Tryz.underlying4
  a4:=Tryz.isAgg4
  z4:=Tryz.sizeOf4
  v4:=Tryz.zeroValue4
  t9:=Tryz.underlying9
  a9:=Tryz.isAgg9
  z9:=Tryz.sizeOf9
  v9:=Tryz.zeroValue9
  t20:=Tryz.underlying20
  a20:=Tryz.isAgg20
  z20:=Tryz.sizeOf20
  v20:=Tryz.zeroValue20
  t31:=Tryz.underlying96
  a31:=Tryz.isAgg96
  z31:=Tryz.sizeOf96
  v31:=Tryz.zeroValue96
  t37:=Tryz.underlying147
  a37:=Tryz.isAgg147
  z37:=Tryz.sizeOf147
  v37:=Tryz.zeroValue147
  t70:=Tryz.underlying146
  a70:=Tryz.isAgg146
  z70:=Tryz.sizeOf146
  v70:=Tryz.zeroValue146
  t72:=Tryz.underlying149
  a72:=Tryz.isAgg149
  z72:=Tryz.sizeOf149
  v72:=Tryz.zeroValue149
  t75:=Tryz.underlying152
  a75:=Tryz.isAgg152
  z75:=Tryz.sizeOf152
  v75:=Tryz.zeroValue152
  t76:=Tryz.underlying153
  a76:=Tryz.isAgg153
  z76:=Tryz.sizeOf153
  v76:=Tryz.zeroValue153
  t127:=Tryz.underlying196
  a127:=Tryz.isAgg196
  z127:=Tryz.sizeOf196
  v127:=Tryz.zeroValue196
  t164:=Tryz.underlying211
  a164:=Tryz.isAgg211
  z164:=Tryz.sizeOf211
  v164:=Tryz.zeroValue211}
theorem Tryz.Builder_Extra_156:Builder.Extra Tryz.prog Tryz.lays156_ren:={
  sizeBuilder:=by kernel_rfl
  liesBuilder:=by kernel_rfl
  t5:=Tryz.underlying5
  a5:=Tryz.isAgg5
  z5:=Tryz.sizeOf5
  v5:=Tryz.zeroValue5
  infoByte:=by kernel_rfl
  cellsByte:=by kernel_rfl
  sizeByte:=by kernel_rfl
  neB5:=by decide}
open Go.RowKit in
theorem Tryz.strings_Join (bk o c:Nat) (xs:List ByteArray) (sep:ByteArray) (w:World) (hcells:∀(j:Nat) x,xs[j]? =some x→w.cell? ⟨bk,o+j,none⟩=some (.string x)) (hbk:bk<w.heap.size) (hN:xs.length≤140737488355328) (hcap:xs.length≤c) (hlen:(Lib.join (xs.map (·.data.toList)) sep.data.toList).length≤140737488355328):
    Calls Tryz.prog 65 #[.slice (some ⟨bk,o,none⟩) xs.length c, .string sep] w fun e w'=>e= .returned (.string ⟨(Lib.join (xs.map (·.data.toList)) sep.data.toList).toArray⟩)∧Below w.heap.size w w':=Any.strings_Join Tryz.lays156 Tryz.Builder_Extra_156 bk o c xs sep w hcells hbk hN hcap hlen
def Tryz.laysM171_ren:Go.Shelf.Ren:=⟨fun|171=>64|243=>115|246=>153|283=>172|284=>173|285=>174|286=>175|129=>192|317=>191|318=>193|319=>194|320=>195|337=>210|338=>211|n=>n,fun|3=>3|9=>9|2=>2|4=>4|171=>205|0=>0|53=>206|37=>147|5=>5|173=>209|212=>225|51=>226|20=>20|213=>227|46=>223|232=>255|233=>256|n=>n,fun|17=>0|18=>2|19=>3|n=>n⟩
theorem Tryz.laysM171:Go.Proofs.LaysM.n171 Tryz.prog Tryz.laysM171_ren:={
  mixed:=by kernel_rfl
  f129:=Tryz.func192.trans (congrArg some (by kernel_rfl))
  f171:=Tryz.func64.trans (congrArg some (by kernel_rfl))
  f243:=Tryz.func115.trans (congrArg some (by kernel_rfl))
  f246:=Tryz.func153.trans (congrArg some (by kernel_rfl))
  f283:=Tryz.func172.trans (congrArg some (by kernel_rfl))
  f284:=Tryz.func173.trans (congrArg some (by kernel_rfl))
  f285:=Tryz.func174.trans (congrArg some (by kernel_rfl))
  f286:=Tryz.func175.trans (congrArg some (by kernel_rfl))
  f317:=Tryz.func191.trans (congrArg some (by kernel_rfl))
  f318:=Tryz.func193.trans (congrArg some (by kernel_rfl))
  f319:=Tryz.func194.trans (congrArg some (by kernel_rfl))
  f320:=Tryz.func195.trans (congrArg some (by kernel_rfl))
  f337:=Tryz.func210.trans (congrArg some (by kernel_rfl))
  f338:=Tryz.func211.trans (congrArg some (by kernel_rfl))
  t0:=Tryz.underlying0
  a0:=Tryz.isAgg0
  z0:=Tryz.sizeOf0
  v0:=Tryz.zeroValue0
  t2:=Tryz.underlying2
  a2:=Tryz.isAgg2
  z2:=Tryz.sizeOf2
  v2:=Tryz.zeroValue2
  t3:=Tryz.underlying3
  a3:=Tryz.isAgg3
  z3:=Tryz.sizeOf3
  v3:=Tryz.zeroValue3
  t4:=Tryz.underlying4
  a4:=Tryz.isAgg4
  z4:=Tryz.sizeOf4
  v4:=Tryz.zeroValue4
  t5:=Tryz.underlying5
  a5:=Tryz.isAgg5
  z5:=Tryz.sizeOf5
  v5:=Tryz.zeroValue5
  t9:=Tryz.underlying9
  a9:=Tryz.isAgg9
  z9:=Tryz.sizeOf9
  v9:=Tryz.zeroValue9
  t20:=Tryz.underlying20
  a20:=Tryz.isAgg20
  z20:=Tryz.sizeOf20
  v20:=Tryz.zeroValue20
  t37:=Tryz.underlying147
  a37:=Tryz.isAgg147
  z37:=Tryz.sizeOf147
  v37:=Tryz.zeroValue147
  t46:=Tryz.underlying223
  a46:=Tryz.isAgg223
  z46:=Tryz.sizeOf223
  v46:=Tryz.zeroValue223
  t51:=Tryz.underlying226
  a51:=Tryz.isAgg226
  z51:=Tryz.sizeOf226
  v51:=Tryz.zeroValue226
  t53:=Tryz.underlying206
  a53:=Tryz.isAgg206
  z53:=Tryz.sizeOf206
  v53:=Tryz.zeroValue206
  t171:=Tryz.underlying205
  a171:=Tryz.isAgg205
  z171:=Tryz.sizeOf205
  v171:=Tryz.zeroValue205
  t173:=Tryz.underlying209
  a173:=Tryz.isAgg209
  z173:=Tryz.sizeOf209
  v173:=Tryz.zeroValue209
  t212:=Tryz.underlying225
  a212:=Tryz.isAgg225
  z212:=Tryz.sizeOf225
  v212:=Tryz.zeroValue225
  t213:=Tryz.underlying227
  a213:=Tryz.isAgg227
  z213:=Tryz.sizeOf227
  t232:=Tryz.underlying255
  a232:=Tryz.isAgg255
  z232:=Tryz.sizeOf255
  v232:=Tryz.zeroValue255
  t233:=Tryz.underlying256
  a233:=Tryz.isAgg256
  z233:=Tryz.sizeOf256
  v233:=Tryz.zeroValue256
  g17:=by kernel_rfl
  g18:=by kernel_rfl
  g19:=by kernel_rfl
  i0:=by kernel_rfl
  i2:=by kernel_rfl
  i3:=by kernel_rfl
  i4:=by kernel_rfl
  i5:=by kernel_rfl
  i9:=by kernel_rfl
  i20:=by kernel_rfl
  i37:=by kernel_rfl
  i46:=by kernel_rfl
  i51:=by kernel_rfl
  i53:=by kernel_rfl
  i171:=by kernel_rfl
  i173:=by kernel_rfl
  i212:=by kernel_rfl
  i232:=by kernel_rfl
  i233:=by kernel_rfl
  m17:=by kernel_rfl
  m18:=by kernel_rfl
  m19:=by kernel_rfl}
open Go.RowKit Go.Sort Go.Lib in
theorem Tryz.strconv_Itoa (n:Int) (h0: -9223372036854775808≤n) (h1:n≤9223372036854775807) (w:World) (htab:Lib.TabIs Tryz.prog w "internal/strconv.uint64pow10" .u64 Lib.pow10Tab):
    Calls Tryz.prog 64 #[.int .i64 n] w fun e w'=>e= .returned (.string ⟨(Lib.itoa n).toArray⟩)∧∃k os,w'=grow (w.drewN k) os:=Any.strconv_Itoa Tryz.laysM171 n h0 h1 w htab
end Go.Proofs
