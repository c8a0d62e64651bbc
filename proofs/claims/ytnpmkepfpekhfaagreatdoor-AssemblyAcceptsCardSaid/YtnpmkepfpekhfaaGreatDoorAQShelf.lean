/- texts of the shelf. -/
import Derived.Shelf.Strings.Builder1
import Derived.Shelf.Strings.Builder2
import Derived.Shelf.Strings.OnBuilder
import Derived.Shelf.Small.Bits
import Derived.Shelf.Strings.BuilderF
import Derived.Shelf.Strings.BuilderK
import Derived.Shelf.Strings.Builder2Cap
import Derived.Shelf.Strconv.Itoa0
import Derived.Shelf.Strconv.Itoa1
import Derived.Shelf.LaysM
import Derived.Shelf.Strconv.Itoa2
import Derived.Shelf.Strconv.Itoa3
import Derived.Shelf.Strings.BuilderCap
import Derived.Shelf.Slices.Turned
import Derived.Ground.Names2Prog
import Derived.Shelf.Slices.Clone
import Derived.Ground.SlgnProg
import Derived.Shelf.SlicesE.Clone
import Derived.Test.YtnpmkepfpekhfaaGreatDoorProg
namespace Go.Proofs
open Go.Shelf
def Tryz.lays169_ren:Go.Shelf.Ren:=⟨fun|169=>93|n=>n,fun|70=>151|9=>9|0=>0|72=>154|37=>152|127=>221|3=>3|5=>5|n=>n,fun|n=>n⟩
theorem Tryz.lays169:Go.Proofs.Lays.n169 Tryz.prog Tryz.lays169_ren:={
  mixed:=by kernel_rfl
  f169:=Tryz.func93.trans (congrArg some (by kernel_rfl))
  t0:=Tryz.underlying0
  a0:=Tryz.isAgg0
  z0:=Tryz.sizeOf0
  v0:=Tryz.zeroValue0
  t3:=Tryz.underlying3
  a3:=Tryz.isAgg3
  z3:=Tryz.sizeOf3
  v3:=Tryz.zeroValue3
  t9:=Tryz.underlying9
  a9:=Tryz.isAgg9
  z9:=Tryz.sizeOf9
  v9:=Tryz.zeroValue9
  t37:=Tryz.underlying152
  a37:=Tryz.isAgg152
  z37:=Tryz.sizeOf152
  v37:=Tryz.zeroValue152
  t70:=Tryz.underlying151
  a70:=Tryz.isAgg151
  z70:=Tryz.sizeOf151
  v70:=Tryz.zeroValue151
  t72:=Tryz.underlying154
  a72:=Tryz.isAgg154
  z72:=Tryz.sizeOf154
  v72:=Tryz.zeroValue154
  t127:=Tryz.underlying221
  a127:=Tryz.isAgg221
  z127:=Tryz.sizeOf221
  v127:=Tryz.zeroValue221}
theorem Tryz.Builder_Extra_169:Builder.Extra Tryz.prog Tryz.lays169_ren:={
  sizeBuilder:=by kernel_rfl
  liesBuilder:=by kernel_rfl
  t5:=Tryz.underlying5
  a5:=Tryz.isAgg5
  z5:=Tryz.sizeOf5
  v5:=Tryz.zeroValue5
  infoByte:=by kernel_rfl
  cellsByte:=by kernel_rfl
  sizeByte:=by kernel_rfl
  neB5:=by decide}
open Go.RowKit in
theorem Tryz.Builder_String_any (B b:Nat) (l:List UInt8) (w:World) (h:Lib.IsBuilder 154 5 B b (Lib.byteCells l) w) (hBw:B≤w.heap.size):
    Calls Tryz.prog 93 #[.pointer (some ⟨b,0,none⟩)] w fun e w'=>e= .returned (.string ⟨l.toArray⟩)∧Below B w w':=Any.Builder_String_any Tryz.lays169 Tryz.Builder_Extra_169 B b l w h hBw
def Tryz.lays156_ren:Go.Shelf.Ren:=⟨fun|156=>130|165=>167|166=>89|169=>93|240=>129|241=>196|276=>166|277=>210|n=>n,fun|31=>219|9=>9|3=>3|4=>4|0=>0|20=>20|72=>154|76=>158|70=>151|37=>152|75=>157|127=>221|164=>254|5=>5|80=>163|n=>n,fun|n=>n⟩
theorem Tryz.lays156:Go.Proofs.Lays.n156 Tryz.prog Tryz.lays156_ren:={
  mixed:=by kernel_rfl
  f156:=Tryz.func130.trans (congrArg some (by kernel_rfl))
  f165:=Tryz.func167.trans (congrArg some (by kernel_rfl))
  f166:=Tryz.func89.trans (congrArg some (by kernel_rfl))
  f169:=Tryz.func93.trans (congrArg some (by kernel_rfl))
  f240:=Tryz.func129.trans (congrArg some (by kernel_rfl))
  f241:=Tryz.func196.trans (congrArg some (by kernel_rfl))
  f276:=Tryz.func166.trans (congrArg some (by kernel_rfl))
  f277:=Tryz.func210.trans (congrArg some (by kernel_rfl))
  t0:=Tryz.underlying0
  a0:=Tryz.isAgg0
  z0:=Tryz.sizeOf0
  v0:=Tryz.zeroValue0
  t3:=Tryz.underlying3
  a3:=Tryz.isAgg3
  z3:=Tryz.sizeOf3
  v3:=Tryz.zeroValue3
  t4:=Tryz.underlying4
  a4:=Tryz.isAgg4
  z4:=Tryz.sizeOf4
  v4:=Tryz.zeroValue4
  t9:=Tryz.underlying9
  a9:=Tryz.isAgg9
  z9:=Tryz.sizeOf9
  v9:=Tryz.zeroValue9
  t20:=Tryz.underlying20
  a20:=Tryz.isAgg20
  z20:=Tryz.sizeOf20
  v20:=Tryz.zeroValue20
  t31:=Tryz.underlying219
  a31:=Tryz.isAgg219
  z31:=Tryz.sizeOf219
  v31:=Tryz.zeroValue219
  t37:=Tryz.underlying152
  a37:=Tryz.isAgg152
  z37:=Tryz.sizeOf152
  v37:=Tryz.zeroValue152
  t70:=Tryz.underlying151
  a70:=Tryz.isAgg151
  z70:=Tryz.sizeOf151
  v70:=Tryz.zeroValue151
  t72:=Tryz.underlying154
  a72:=Tryz.isAgg154
  z72:=Tryz.sizeOf154
  v72:=Tryz.zeroValue154
  t75:=Tryz.underlying157
  a75:=Tryz.isAgg157
  z75:=Tryz.sizeOf157
  v75:=Tryz.zeroValue157
  t76:=Tryz.underlying158
  a76:=Tryz.isAgg158
  z76:=Tryz.sizeOf158
  v76:=Tryz.zeroValue158
  t127:=Tryz.underlying221
  a127:=Tryz.isAgg221
  z127:=Tryz.sizeOf221
  v127:=Tryz.zeroValue221
  t164:=Tryz.underlying254
  a164:=Tryz.isAgg254
  z164:=Tryz.sizeOf254
  v164:=Tryz.zeroValue254}
theorem Tryz.Builder_Extra_156:Builder.Extra Tryz.prog Tryz.lays156_ren:={
  sizeBuilder:=by kernel_rfl
  liesBuilder:=by kernel_rfl
  t5:=Tryz.underlying5
  a5:=Tryz.isAgg5
  z5:=Tryz.sizeOf5
  v5:=Tryz.zeroValue5
  infoByte:=by kernel_rfl
  cellsByte:=by kernel_rfl
  sizeByte:=by kernel_rfl
  neB5:=by decide}
open Go.RowKit in
theorem Tryz.strings_Join_none (a:Option Addr) (c:Nat) (sep:ByteArray) (w:World):
    Calls Tryz.prog 130 #[.slice a 0 c, .string sep] w fun e w'=>e= .returned (.string ⟨#[]⟩)∧w'=w:=Any.strings_Join_none Tryz.lays156 Tryz.Builder_Extra_156 a c sep w
open Go.RowKit in
theorem Tryz.strings_Join (bk o c:Nat) (xs:List ByteArray) (sep:ByteArray) (w:World) (hcells:∀(j:Nat) x,xs[j]? =some x→w.cell? ⟨bk,o+j,none⟩=some (.string x)) (hbk:bk<w.heap.size) (hN:xs.length≤140737488355328) (hcap:xs.length≤c) (hlen:(Lib.join (xs.map (·.data.toList)) sep.data.toList).length≤140737488355328):
    Calls Tryz.prog 130 #[.slice (some ⟨bk,o,none⟩) xs.length c, .string sep] w fun e w'=>e= .returned (.string ⟨(Lib.join (xs.map (·.data.toList)) sep.data.toList).toArray⟩)∧Below w.heap.size w w':=Any.strings_Join Tryz.lays156 Tryz.Builder_Extra_156 bk o c xs sep w hcells hbk hN hcap hlen
def Tryz.laysM171_ren:Go.Shelf.Ren:=⟨fun|171=>91|243=>131|246=>168|283=>197|284=>198|285=>199|286=>200|129=>212|317=>211|318=>213|319=>214|320=>101|337=>139|338=>140|n=>n,fun|3=>3|9=>9|2=>2|4=>4|171=>284|0=>0|53=>210|37=>152|5=>5|173=>286|212=>297|51=>208|20=>20|213=>298|46=>97|232=>261|233=>262|n=>n,fun|17=>2|18=>0|19=>1|n=>n⟩
theorem Tryz.laysM171:Go.Proofs.LaysM.n171 Tryz.prog Tryz.laysM171_ren:={
  mixed:=by kernel_rfl
  f129:=Tryz.func212.trans (congrArg some (by kernel_rfl))
  f171:=Tryz.func91.trans (congrArg some (by kernel_rfl))
  f243:=Tryz.func131.trans (congrArg some (by kernel_rfl))
  f246:=Tryz.func168.trans (congrArg some (by kernel_rfl))
  f283:=Tryz.func197.trans (congrArg some (by kernel_rfl))
  f284:=Tryz.func198.trans (congrArg some (by kernel_rfl))
  f285:=Tryz.func199.trans (congrArg some (by kernel_rfl))
  f286:=Tryz.func200.trans (congrArg some (by kernel_rfl))
  f317:=Tryz.func211.trans (congrArg some (by kernel_rfl))
  f318:=Tryz.func213.trans (congrArg some (by kernel_rfl))
  f319:=Tryz.func214.trans (congrArg some (by kernel_rfl))
  f320:=Tryz.func101.trans (congrArg some (by kernel_rfl))
  f337:=Tryz.func139.trans (congrArg some (by kernel_rfl))
  f338:=Tryz.func140.trans (congrArg some (by kernel_rfl))
  t0:=Tryz.underlying0
  a0:=Tryz.isAgg0
  z0:=Tryz.sizeOf0
  v0:=Tryz.zeroValue0
  t2:=Tryz.underlying2
  a2:=Tryz.isAgg2
  z2:=Tryz.sizeOf2
  v2:=Tryz.zeroValue2
  t3:=Tryz.underlying3
  a3:=Tryz.isAgg3
  z3:=Tryz.sizeOf3
  v3:=Tryz.zeroValue3
  t4:=Tryz.underlying4
  a4:=Tryz.isAgg4
  z4:=Tryz.sizeOf4
  v4:=Tryz.zeroValue4
  t5:=Tryz.underlying5
  a5:=Tryz.isAgg5
  z5:=Tryz.sizeOf5
  v5:=Tryz.zeroValue5
  t9:=Tryz.underlying9
  a9:=Tryz.isAgg9
  z9:=Tryz.sizeOf9
  v9:=Tryz.zeroValue9
  t20:=Tryz.underlying20
  a20:=Tryz.isAgg20
  z20:=Tryz.sizeOf20
  v20:=Tryz.zeroValue20
  t37:=Tryz.underlying152
  a37:=Tryz.isAgg152
  z37:=Tryz.sizeOf152
  v37:=Tryz.zeroValue152
  t46:=Tryz.underlying97
  a46:=Tryz.isAgg97
  z46:=Tryz.sizeOf97
  v46:=Tryz.zeroValue97
  t51:=Tryz.underlying208
  a51:=Tryz.isAgg208
  z51:=Tryz.sizeOf208
  v51:=Tryz.zeroValue208
  t53:=Tryz.underlying210
  a53:=Tryz.isAgg210
  z53:=Tryz.sizeOf210
  v53:=Tryz.zeroValue210
  t171:=Tryz.underlying284
  a171:=Tryz.isAgg284
  z171:=Tryz.sizeOf284
  v171:=Tryz.zeroValue284
  t173:=Tryz.underlying286
  a173:=Tryz.isAgg286
  z173:=Tryz.sizeOf286
  v173:=Tryz.zeroValue286
  t212:=Tryz.underlying297
  a212:=Tryz.isAgg297
  z212:=Tryz.sizeOf297
  v212:=Tryz.zeroValue297
  t213:=Tryz.underlying298
  a213:=Tryz.isAgg298
  z213:=Tryz.sizeOf298
  t232:=Tryz.underlying261
  a232:=Tryz.isAgg261
  z232:=Tryz.sizeOf261
  v232:=Tryz.zeroValue261
  t233:=Tryz.underlying262
  a233:=Tryz.isAgg262
  z233:=Tryz.sizeOf262
  v233:=Tryz.zeroValue262
  g17:=by kernel_rfl
  g18:=by kernel_rfl
  g19:=by kernel_rfl
  i0:=by kernel_rfl
  i2:=by kernel_rfl
  i3:=by kernel_rfl
  i4:=by kernel_rfl
  i5:=by kernel_rfl
  i9:=by kernel_rfl
  i20:=by kernel_rfl
  i37:=by kernel_rfl
  i46:=by kernel_rfl
  i51:=by kernel_rfl
  i53:=by kernel_rfl
  i171:=by kernel_rfl
  i173:=by kernel_rfl
  i212:=by kernel_rfl
  i232:=by kernel_rfl
  i233:=by kernel_rfl
  m17:=by kernel_rfl
  m18:=by kernel_rfl
  m19:=by kernel_rfl}
open Go.RowKit Go.Sort Go.Lib in
theorem Tryz.strconv_Itoa (n:Int) (h0: -9223372036854775808≤n) (h1:n≤9223372036854775807) (w:World) (htab:Lib.TabIs Tryz.prog w "internal/strconv.uint64pow10" .u64 Lib.pow10Tab):
    Calls Tryz.prog 91 #[.int .i64 n] w fun e w'=>e= .returned (.string ⟨(Lib.itoa n).toArray⟩)∧∃k os,w'=grow (w.drewN k) os:=Any.strconv_Itoa Tryz.laysM171 n h0 h1 w htab
def Tryz.laysNm215_ren:Go.Shelf.Ren:=⟨fun|15=>75|n=>n,fun|22=>49|3=>3|4=>4|n=>n,fun|n=>n⟩
theorem Tryz.laysNm215:Go.Proofs.Lays2.n15 Tryz.prog Tryz.laysNm215_ren:={
  mixed:=by kernel_rfl
  f15:=Tryz.func75.trans (congrArg some (by kernel_rfl))
  t3:=Tryz.underlying3
  a3:=Tryz.isAgg3
  z3:=Tryz.sizeOf3
  v3:=Tryz.zeroValue3
  t4:=Tryz.underlying4
  a4:=Tryz.isAgg4
  z4:=Tryz.sizeOf4
  v4:=Tryz.zeroValue4
  t22:=Tryz.underlying49
  a22:=Tryz.isAgg49
  z22:=Tryz.sizeOf49
  v22:=Tryz.zeroValue49
  i3:=by kernel_rfl}
open Go.RowKit Go.Lib in
theorem Tryz.slices_Clone_int (b off n c:Nat) (zs:List Int) (w:World) (hz:n≤zs.length) (hbig:n*8≤140737488355328) (hc:∀j,j<zs.length→w.cell? ⟨b,off+j,none⟩=some (.int .i64 (zs.getD j 0))):
    Calls Tryz.prog 75 #[.slice (some ⟨b,off,none⟩) n c] w fun e w'=>∃v',e= .returned v'∧w'.ownsRow w.heap.size 3 1 v' n ((zs.take n).map (Value.int .i64))∧v'≠ .slice none 0 0∧Below w.heap.size w w':=Any.slices_Clone_int Tryz.laysNm215 b off n c zs w hz hbig hc
open Go.RowKit Go.Lib in
theorem Tryz.slices_Clone_int_nil (n c:Nat) (w:World):
    Calls Tryz.prog 75 #[.slice none n c] w fun e w'=>e= .returned (.slice none 0 0)∧w'=w:=Any.slices_Clone_int_nil Tryz.laysNm215 n c w
open Go.RowKit Go.Lib in
theorem Tryz.slices_Clone_int_zero (a:Addr) (c:Nat) (w:World):
    Calls Tryz.prog 75 #[.slice (some a) 0 c] w fun e w'=>∃v',e= .returned v'∧w'.ownsRow w.heap.size 3 1 v' 0 []∧v'≠ .slice none 0 0∧Below w.heap.size w w':=Any.slices_Clone_int_zero Tryz.laysNm215 a c w
end Go.Proofs
