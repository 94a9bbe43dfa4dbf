/- Contracts of the library at this translation. -/
import Derived.Shelf.Strings.Builder1
import Derived.Shelf.Strings.Builder2
import Derived.Shelf.Strings.OnBuilder
import Derived.Shelf.Small.Strs
import Derived.Shelf.Strings.BuilderF
import Derived.Shelf.Strings.BuilderK
import Derived.Shelf.Utf8.RuneCount
import Derived.Shelf.Strings.Builder2Cap
import Derived.Shelf.Strconv.Itoa0
import Derived.Shelf.Strconv.Itoa1
import Derived.Shelf.LaysM
import Derived.Shelf.Strconv.Itoa2
import Derived.Shelf.Strconv.Itoa3
import Derived.Shelf.Strings.Search1
import Derived.Shelf.Strings.Search2
import Derived.Shelf.Strings.Search3
import Derived.Shelf.Strings.Count
import Derived.Shelf.Strings.Shaped
import Derived.Shelf.Strings.Prefix
import Derived.Shelf.Strings.Split
import Derived.Shelf.Strings.SplitShaped
import Derived.Shelf.Unicode.Decode
import Derived.Shelf.Strings.RuneCount
import Derived.Shelf.Strings.Explode
import Derived.Shelf.Unicode.DecodeSlow
import Derived.Shelf.Unicode.DecodeAny
import Derived.Shelf.Strings.BuilderCap
import Derived.Test.YtdkjgcfhepplbaaGreatDoorProg
namespace Go.Proofs
open Go.Shelf
def Tryz.lays170_ren:Go.Shelf.Ren:=⟨fun|170=>97|n=>n,fun|70=>130|3=>3|0=>0|72=>132|37=>94|5=>5|n=>n,fun|n=>n⟩
theorem Tryz.lays170:Go.Proofs.Lays.n170 Tryz.prog Tryz.lays170_ren:={
 mixed:=by kernel_rfl
 f170:=Tryz.func97.trans (congrArg some (by kernel_rfl))
 t0:=Tryz.underlying0
 a0:=Tryz.isAgg0
 z0:=Tryz.sizeOf0
 v0:=Tryz.zeroValue0
 t3:=Tryz.underlying3
 a3:=Tryz.isAgg3
 z3:=Tryz.sizeOf3
 v3:=Tryz.zeroValue3
 t37:=Tryz.underlying94
 a37:=Tryz.isAgg94
 z37:=Tryz.sizeOf94
 v37:=Tryz.zeroValue94
 t70:=Tryz.underlying130
 a70:=Tryz.isAgg130
 z70:=Tryz.sizeOf130
 v70:=Tryz.zeroValue130
 t72:=Tryz.underlying132
 a72:=Tryz.isAgg132
 z72:=Tryz.sizeOf132
 v72:=Tryz.zeroValue132 }
open Go.RowKit in
theorem Tryz.Builder_Len (B b:Nat) (bs:List Value) (w:World) (h:Lib.IsBuilder 132 5 B b bs w) :
  Calls Tryz.prog 97 #[.pointer (some ⟨b,0,none⟩)] w fun e w'=>e=.returned (.int .i64 bs.length)∧w'=w:=Any.Builder_Len Tryz.lays170 B b bs w h
def Tryz.lays169_ren:Go.Shelf.Ren:=⟨fun|169=>64|n=>n,fun|70=>130|9=>9|0=>0|72=>132|37=>94|127=>178|3=>3|5=>5|n=>n,fun|n=>n⟩
theorem Tryz.lays169:Go.Proofs.Lays.n169 Tryz.prog Tryz.lays169_ren:={
 mixed:=by kernel_rfl
 f169:=Tryz.func64.trans (congrArg some (by kernel_rfl))
 t0:=Tryz.underlying0
 a0:=Tryz.isAgg0
 z0:=Tryz.sizeOf0
 v0:=Tryz.zeroValue0
 t3:=Tryz.underlying3
 a3:=Tryz.isAgg3
 z3:=Tryz.sizeOf3
 v3:=Tryz.zeroValue3
 t9:=Tryz.underlying9
 a9:=Tryz.isAgg9
 z9:=Tryz.sizeOf9
 v9:=Tryz.zeroValue9
 t37:=Tryz.underlying94
 a37:=Tryz.isAgg94
 z37:=Tryz.sizeOf94
 v37:=Tryz.zeroValue94
 t70:=Tryz.underlying130
 a70:=Tryz.isAgg130
 z70:=Tryz.sizeOf130
 v70:=Tryz.zeroValue130
 t72:=Tryz.underlying132
 a72:=Tryz.isAgg132
 z72:=Tryz.sizeOf132
 v72:=Tryz.zeroValue132
 t127:=Tryz.underlying178
 a127:=Tryz.isAgg178
 z127:=Tryz.sizeOf178
 v127:=Tryz.zeroValue178 }
theorem Tryz.Builder_Extra_169:Builder.Extra Tryz.prog Tryz.lays169_ren:={
 sizeBuilder:=by kernel_rfl
 liesBuilder:=by kernel_rfl
 t5:=Tryz.underlying5
 a5:=Tryz.isAgg5
 z5:=Tryz.sizeOf5
 v5:=Tryz.zeroValue5
 infoByte:=by kernel_rfl
 cellsByte:=by kernel_rfl
 sizeByte:=by kernel_rfl
 neB5:=by decide }
open Go.RowKit in
theorem Tryz.Builder_String_any (B b:Nat) (l:List UInt8) (w:World) (h:Lib.IsBuilder 132 5 B b (Lib.byteCells l) w) (hBw:B≤w.heap.size) :
  Calls Tryz.prog 64 #[.pointer (some ⟨b,0,none⟩)] w fun e w'=>e=.returned (.string ⟨l.toArray⟩)∧Below B w w':=Any.Builder_String_any Tryz.lays169 Tryz.Builder_Extra_169 B b l w h hBw
def Tryz.lays156_ren:Go.Shelf.Ren:=⟨fun|156=>56|165=>85|166=>63|169=>64|240=>100|241=>116|276=>122|277=>126|n=>n,fun|31=>22|9=>9|3=>3|4=>4|0=>0|20=>20|72=>132|76=>137|70=>130|37=>94|75=>135|127=>178|164=>196|5=>5|80=>139|n=>n,fun|n=>n⟩
theorem Tryz.lays156:Go.Proofs.Lays.n156 Tryz.prog Tryz.lays156_ren:={
 mixed:=by kernel_rfl
 f156:=Tryz.func56.trans (congrArg some (by kernel_rfl))
 f165:=Tryz.func85.trans (congrArg some (by kernel_rfl))
 f166:=Tryz.func63.trans (congrArg some (by kernel_rfl))
 f169:=Tryz.func64.trans (congrArg some (by kernel_rfl))
 f240:=Tryz.func100.trans (congrArg some (by kernel_rfl))
 f241:=Tryz.func116.trans (congrArg some (by kernel_rfl))
 f276:=Tryz.func122.trans (congrArg some (by kernel_rfl))
 f277:=Tryz.func126.trans (congrArg some (by kernel_rfl))
 t0:=Tryz.underlying0
 a0:=Tryz.isAgg0
 z0:=Tryz.sizeOf0
 v0:=Tryz.zeroValue0
 t3:=Tryz.underlying3
 a3:=Tryz.isAgg3
 z3:=Tryz.sizeOf3
 v3:=Tryz.zeroValue3
 t4:=Tryz.underlying4
 a4:=Tryz.isAgg4
 z4:=Tryz.sizeOf4
 v4:=Tryz.zeroValue4
 t9:=Tryz.underlying9
 a9:=Tryz.isAgg9
 z9:=Tryz.sizeOf9
 v9:=Tryz.zeroValue9
 t20:=Tryz.underlying20
 a20:=Tryz.isAgg20
 z20:=Tryz.sizeOf20
 v20:=Tryz.zeroValue20
 t31:=Tryz.underlying22
 a31:=Tryz.isAgg22
 z31:=Tryz.sizeOf22
 v31:=Tryz.zeroValue22
 t37:=Tryz.underlying94
 a37:=Tryz.isAgg94
 z37:=Tryz.sizeOf94
 v37:=Tryz.zeroValue94
 t70:=Tryz.underlying130
 a70:=Tryz.isAgg130
 z70:=Tryz.sizeOf130
 v70:=Tryz.zeroValue130
 t72:=Tryz.underlying132
 a72:=Tryz.isAgg132
 z72:=Tryz.sizeOf132
 v72:=Tryz.zeroValue132
 t75:=Tryz.underlying135
 a75:=Tryz.isAgg135
 z75:=Tryz.sizeOf135
 v75:=Tryz.zeroValue135
 t76:=Tryz.underlying137
 a76:=Tryz.isAgg137
 z76:=Tryz.sizeOf137
 v76:=Tryz.zeroValue137
 t127:=Tryz.underlying178
 a127:=Tryz.isAgg178
 z127:=Tryz.sizeOf178
 v127:=Tryz.zeroValue178
 t164:=Tryz.underlying196
 a164:=Tryz.isAgg196
 z164:=Tryz.sizeOf196
 v164:=Tryz.zeroValue196 }
theorem Tryz.Builder_Extra_156:Builder.Extra Tryz.prog Tryz.lays156_ren:={
 sizeBuilder:=by kernel_rfl
 liesBuilder:=by kernel_rfl
 t5:=Tryz.underlying5
 a5:=Tryz.isAgg5
 z5:=Tryz.sizeOf5
 v5:=Tryz.zeroValue5
 infoByte:=by kernel_rfl
 cellsByte:=by kernel_rfl
 sizeByte:=by kernel_rfl
 neB5:=by decide }
open Go.RowKit in
theorem Tryz.strings_Join (bk o c:Nat) (xs:List ByteArray) (sep:ByteArray) (w:World) (hcells:∀ (j:Nat) x,xs[j]? = some x→w.cell? ⟨bk,o+j,none⟩=some (.string x)) (hbk:bk<w.heap.size) (hN:xs.length≤140737488355328) (hcap:xs.length≤c) (hlen:(Lib.join (xs.map (·.data.toList)) sep.data.toList).length≤140737488355328) :
  Calls Tryz.prog 56 #[.slice (some ⟨bk,o,none⟩) xs.length c,.string sep] w fun e w'=>e=.returned (.string ⟨(Lib.join (xs.map (·.data.toList)) sep.data.toList).toArray⟩)∧Below w.heap.size w w':=Any.strings_Join Tryz.lays156 Tryz.Builder_Extra_156 bk o c xs sep w hcells hbk hN hcap hlen
def Tryz.lays137_ren:Go.Shelf.Ren:=⟨fun|137=>57|217=>86|266=>117|n=>n,fun|9=>9|5=>5|3=>3|n=>n,fun|n=>n⟩
theorem Tryz.lays137:Go.Proofs.Lays.n137 Tryz.prog Tryz.lays137_ren:={
 mixed:=by kernel_rfl
 f137:=Tryz.func57.trans (congrArg some (by kernel_rfl))
 f217:=Tryz.func86.trans (congrArg some (by kernel_rfl))
 f266:=Tryz.func117.trans (congrArg some (by kernel_rfl))
 t3:=Tryz.underlying3
 a3:=Tryz.isAgg3
 z3:=Tryz.sizeOf3
 v3:=Tryz.zeroValue3
 t5:=Tryz.underlying5
 a5:=Tryz.isAgg5
 z5:=Tryz.sizeOf5
 v5:=Tryz.zeroValue5
 t9:=Tryz.underlying9
 a9:=Tryz.isAgg9
 z9:=Tryz.sizeOf9
 v9:=Tryz.zeroValue9 }
open Go.RowKit in
theorem Tryz.strings_IndexByte (s:ByteArray) (c:Int) (w:World) :
  Calls Tryz.prog 57 #[.string s,.int .u8 c] w fun e w'=>e=.returned (.int .i64 (Lib.indexByte s.data.toList c.toNat.toUInt8))∧w'=w:=Any.strings_IndexByte Tryz.lays137 s c w
def Tryz.laysM171_ren:Go.Shelf.Ren:=⟨fun|171=>84|243=>115|246=>125|283=>133|284=>134|285=>135|286=>136|129=>142|317=>141|318=>143|319=>144|320=>145|337=>146|338=>147|n=>n,fun|3=>3|9=>9|2=>2|4=>4|171=>210|0=>0|53=>23|37=>94|5=>5|173=>213|212=>217|51=>198|20=>20|213=>218|46=>183|232=>38|233=>167|n=>n,fun|17=>3|18=>6|19=>7|n=>n⟩
theorem Tryz.laysM171:Go.Proofs.LaysM.n171 Tryz.prog Tryz.laysM171_ren:={
 mixed:=by kernel_rfl
 f129:=Tryz.func142.trans (congrArg some (by kernel_rfl))
 f171:=Tryz.func84.trans (congrArg some (by kernel_rfl))
 f243:=Tryz.func115.trans (congrArg some (by kernel_rfl))
 f246:=Tryz.func125.trans (congrArg some (by kernel_rfl))
 f283:=Tryz.func133.trans (congrArg some (by kernel_rfl))
 f284:=Tryz.func134.trans (congrArg some (by kernel_rfl))
 f285:=Tryz.func135.trans (congrArg some (by kernel_rfl))
 f286:=Tryz.func136.trans (congrArg some (by kernel_rfl))
 f317:=Tryz.func141.trans (congrArg some (by kernel_rfl))
 f318:=Tryz.func143.trans (congrArg some (by kernel_rfl))
 f319:=Tryz.func144.trans (congrArg some (by kernel_rfl))
 f320:=Tryz.func145.trans (congrArg some (by kernel_rfl))
 f337:=Tryz.func146.trans (congrArg some (by kernel_rfl))
 f338:=Tryz.func147.trans (congrArg some (by kernel_rfl))
 t0:=Tryz.underlying0
 a0:=Tryz.isAgg0
 z0:=Tryz.sizeOf0
 v0:=Tryz.zeroValue0
 t2:=Tryz.underlying2
 a2:=Tryz.isAgg2
 z2:=Tryz.sizeOf2
 v2:=Tryz.zeroValue2
 t3:=Tryz.underlying3
 a3:=Tryz.isAgg3
 z3:=Tryz.sizeOf3
 v3:=Tryz.zeroValue3
 t4:=Tryz.underlying4
 a4:=Tryz.isAgg4
 z4:=Tryz.sizeOf4
 v4:=Tryz.zeroValue4
 t5:=Tryz.underlying5
 a5:=Tryz.isAgg5
 z5:=Tryz.sizeOf5
 v5:=Tryz.zeroValue5
 t9:=Tryz.underlying9
 a9:=Tryz.isAgg9
 z9:=Tryz.sizeOf9
 v9:=Tryz.zeroValue9
 t20:=Tryz.underlying20
 a20:=Tryz.isAgg20
 z20:=Tryz.sizeOf20
 v20:=Tryz.zeroValue20
 t37:=Tryz.underlying94
 a37:=Tryz.isAgg94
 z37:=Tryz.sizeOf94
 v37:=Tryz.zeroValue94
 t46:=Tryz.underlying183
 a46:=Tryz.isAgg183
 z46:=Tryz.sizeOf183
 v46:=Tryz.zeroValue183
 t51:=Tryz.underlying198
 a51:=Tryz.isAgg198
 z51:=Tryz.sizeOf198
 v51:=Tryz.zeroValue198
 t53:=Tryz.underlying23
 a53:=Tryz.isAgg23
 z53:=Tryz.sizeOf23
 v53:=Tryz.zeroValue23
 t171:=Tryz.underlying210
 a171:=Tryz.isAgg210
 z171:=Tryz.sizeOf210
 v171:=Tryz.zeroValue210
 t173:=Tryz.underlying213
 a173:=Tryz.isAgg213
 z173:=Tryz.sizeOf213
 v173:=Tryz.zeroValue213
 t212:=Tryz.underlying217
 a212:=Tryz.isAgg217
 z212:=Tryz.sizeOf217
 v212:=Tryz.zeroValue217
 t213:=Tryz.underlying218
 a213:=Tryz.isAgg218
 z213:=Tryz.sizeOf218
 t232:=Tryz.underlying38
 a232:=Tryz.isAgg38
 z232:=Tryz.sizeOf38
 v232:=Tryz.zeroValue38
 t233:=Tryz.underlying167
 a233:=Tryz.isAgg167
 z233:=Tryz.sizeOf167
 v233:=Tryz.zeroValue167
 g17:=by kernel_rfl
 g18:=by kernel_rfl
 g19:=by kernel_rfl
 i0:=by kernel_rfl
 i2:=by kernel_rfl
 i3:=by kernel_rfl
 i4:=by kernel_rfl
 i5:=by kernel_rfl
 i9:=by kernel_rfl
 i20:=by kernel_rfl
 i37:=by kernel_rfl
 i46:=by kernel_rfl
 i51:=by kernel_rfl
 i53:=by kernel_rfl
 i171:=by kernel_rfl
 i173:=by kernel_rfl
 i212:=by kernel_rfl
 i232:=by kernel_rfl
 i233:=by kernel_rfl
 m17:=by kernel_rfl
 m18:=by kernel_rfl
 m19:=by kernel_rfl }
open Go.RowKit Go.Sort Go.Lib in
theorem Tryz.strconv_Itoa (n:Int) (h0:-9223372036854775808≤n) (h1:n≤9223372036854775807) (w:World) (htab:Lib.TabIs Tryz.prog w "internal/strconv.uint64pow10" .u64 Lib.pow10Tab) :
  Calls Tryz.prog 84 #[.int .i64 n] w fun e w'=>e=.returned (.string ⟨(Lib.itoa n).toArray⟩)∧∃ k os,w'=grow (w.drewN k) os:=Any.strconv_Itoa Tryz.laysM171 n h0 h1 w htab
def Tryz.lays144_ren:Go.Shelf.Ren:=⟨fun|144=>18|143=>36|219=>72|217=>86|225=>106|224=>107|267=>108|266=>117|314=>123|n=>n,fun|9=>9|4=>4|3=>3|5=>5|46=>183|146=>199|51=>198|n=>n,fun|1=>2|n=>n⟩
theorem Tryz.lays144:Go.Proofs.Lays.n144 Tryz.prog Tryz.lays144_ren:={
 mixed:=by kernel_rfl
 f143:=Tryz.func36.trans (congrArg some (by kernel_rfl))
 f144:=Tryz.func18.trans (congrArg some (by kernel_rfl))
 f217:=Tryz.func86.trans (congrArg some (by kernel_rfl))
 f219:=Tryz.func72.trans (congrArg some (by kernel_rfl))
 f224:=Tryz.func107.trans (congrArg some (by kernel_rfl))
 f225:=Tryz.func106.trans (congrArg some (by kernel_rfl))
 f266:=Tryz.func117.trans (congrArg some (by kernel_rfl))
 f267:=Tryz.func108.trans (congrArg some (by kernel_rfl))
 f314:=Tryz.func123.trans (congrArg some (by kernel_rfl))
 t3:=Tryz.underlying3
 a3:=Tryz.isAgg3
 z3:=Tryz.sizeOf3
 v3:=Tryz.zeroValue3
 t4:=Tryz.underlying4
 a4:=Tryz.isAgg4
 z4:=Tryz.sizeOf4
 v4:=Tryz.zeroValue4
 t5:=Tryz.underlying5
 a5:=Tryz.isAgg5
 z5:=Tryz.sizeOf5
 v5:=Tryz.zeroValue5
 t9:=Tryz.underlying9
 a9:=Tryz.isAgg9
 z9:=Tryz.sizeOf9
 v9:=Tryz.zeroValue9
 t46:=Tryz.underlying183
 a46:=Tryz.isAgg183
 z46:=Tryz.sizeOf183
 v46:=Tryz.zeroValue183
 t51:=Tryz.underlying198
 a51:=Tryz.isAgg198
 z51:=Tryz.sizeOf198
 v51:=Tryz.zeroValue198
 t146:=Tryz.underlying199
 a146:=Tryz.isAgg199
 z146:=Tryz.sizeOf199
 v146:=Tryz.zeroValue199
 g1:=by kernel_rfl }
open Go.RowKit Go.Lib in
theorem Tryz.strings_Contains_one (s:ByteArray) (c:UInt8) (w:World) :
  Calls Tryz.prog 18 #[.string s,.string ⟨#[c]⟩] w fun e w'=>e=.returned (.bool (decide (0≤Lib.indexByte s.data.toList c)))∧w'=w:=Any.strings_Contains_one Tryz.lays144 s c w
def Tryz.laysM143_ren:Go.Shelf.Ren:=⟨fun|143=>36|219=>72|217=>86|225=>106|224=>107|267=>108|266=>117|314=>123|n=>n,fun|9=>9|3=>3|4=>4|5=>5|46=>183|146=>199|51=>198|n=>n,fun|1=>2|n=>n⟩
theorem Tryz.laysM143:Go.Proofs.LaysM.n143 Tryz.prog Tryz.laysM143_ren:={
 mixed:=by kernel_rfl
 f143:=Tryz.func36.trans (congrArg some (by kernel_rfl))
 f217:=Tryz.func86.trans (congrArg some (by kernel_rfl))
 f219:=Tryz.func72.trans (congrArg some (by kernel_rfl))
 f224:=Tryz.func107.trans (congrArg some (by kernel_rfl))
 f225:=Tryz.func106.trans (congrArg some (by kernel_rfl))
 f266:=Tryz.func117.trans (congrArg some (by kernel_rfl))
 f267:=Tryz.func108.trans (congrArg some (by kernel_rfl))
 f314:=Tryz.func123.trans (congrArg some (by kernel_rfl))
 t3:=Tryz.underlying3
 a3:=Tryz.isAgg3
 z3:=Tryz.sizeOf3
 v3:=Tryz.zeroValue3
 t4:=Tryz.underlying4
 a4:=Tryz.isAgg4
 z4:=Tryz.sizeOf4
 v4:=Tryz.zeroValue4
 t5:=Tryz.underlying5
 a5:=Tryz.isAgg5
 z5:=Tryz.sizeOf5
 v5:=Tryz.zeroValue5
 t9:=Tryz.underlying9
 a9:=Tryz.isAgg9
 z9:=Tryz.sizeOf9
 v9:=Tryz.zeroValue9
 t46:=Tryz.underlying183
 a46:=Tryz.isAgg183
 z46:=Tryz.sizeOf183
 v46:=Tryz.zeroValue183
 t51:=Tryz.underlying198
 a51:=Tryz.isAgg198
 z51:=Tryz.sizeOf198
 v51:=Tryz.zeroValue198
 t146:=Tryz.underlying199
 a146:=Tryz.isAgg199
 z146:=Tryz.sizeOf199
 v146:=Tryz.zeroValue199
 g1:=by kernel_rfl
 i3:=by kernel_rfl
 i4:=by kernel_rfl
 i5:=by kernel_rfl
 i9:=by kernel_rfl
 i46:=by kernel_rfl
 i51:=by kernel_rfl
 i146:=by kernel_rfl
 m1:=by kernel_rfl
 s1_3:=fun w h=>Go.Proofs.cell_of_shapedOpen_int (zero:=#[.int .i64 0]) (t:=3) h (of_decide_eq_true (by kernel_rfl)) (by kernel_rfl) rfl (by kernel_rfl) (by kernel_rfl) Tryz.underlying3 }
def Tryz.lays99_ren:Go.Shelf.Ren:=⟨fun|99=>61|206=>99|n=>n,fun|9=>9|4=>4|3=>3|n=>n,fun|n=>n⟩
theorem Tryz.lays99:Go.Proofs.Lays.n99 Tryz.prog Tryz.lays99_ren:={
 mixed:=by kernel_rfl
 f99:=Tryz.func61.trans (congrArg some (by kernel_rfl))
 f206:=Tryz.func99.trans (congrArg some (by kernel_rfl))
 t3:=Tryz.underlying3
 a3:=Tryz.isAgg3
 z3:=Tryz.sizeOf3
 v3:=Tryz.zeroValue3
 t4:=Tryz.underlying4
 a4:=Tryz.isAgg4
 z4:=Tryz.sizeOf4
 v4:=Tryz.zeroValue4
 t9:=Tryz.underlying9
 a9:=Tryz.isAgg9
 z9:=Tryz.sizeOf9
 v9:=Tryz.zeroValue9 }
open Go.RowKit Go.Lib in
theorem Tryz.strings_HasPrefix (s p:ByteArray) (w:World) :
  Calls Tryz.prog 61 #[.string s,.string p] w fun e w'=>e=.returned (.bool (Lib.hasPrefix s.data.toList p.data.toList))∧w'=w:=Any.strings_HasPrefix Tryz.lays99 s p w
def Tryz.lays146_ren:Go.Shelf.Ren:=⟨fun|146=>60|221=>98|268=>120|138=>121|143=>36|195=>130|197=>131|218=>132|219=>72|260=>140|217=>86|225=>106|224=>107|267=>108|266=>117|314=>123|n=>n,fun|9=>9|31=>22|3=>3|4=>4|0=>0|105=>208|21=>21|5=>5|46=>183|119=>220|139=>223|138=>222|146=>199|51=>198|n=>n,fun|1=>2|3=>4|4=>5|n=>n⟩
theorem Tryz.lays146:Go.Proofs.Lays.n146 Tryz.prog Tryz.lays146_ren:={
 mixed:=by kernel_rfl
 f138:=Tryz.func121.trans (congrArg some (by kernel_rfl))
 f143:=Tryz.func36.trans (congrArg some (by kernel_rfl))
 f146:=Tryz.func60.trans (congrArg some (by kernel_rfl))
 f195:=Tryz.func130.trans (congrArg some (by kernel_rfl))
 f197:=Tryz.func131.trans (congrArg some (by kernel_rfl))
 f217:=Tryz.func86.trans (congrArg some (by kernel_rfl))
 f218:=Tryz.func132.trans (congrArg some (by kernel_rfl))
 f219:=Tryz.func72.trans (congrArg some (by kernel_rfl))
 f221:=Tryz.func98.trans (congrArg some (by kernel_rfl))
 f224:=Tryz.func107.trans (congrArg some (by kernel_rfl))
 f225:=Tryz.func106.trans (congrArg some (by kernel_rfl))
 f260:=Tryz.func140.trans (congrArg some (by kernel_rfl))
 f266:=Tryz.func117.trans (congrArg some (by kernel_rfl))
 f267:=Tryz.func108.trans (congrArg some (by kernel_rfl))
 f268:=Tryz.func120.trans (congrArg some (by kernel_rfl))
 f314:=Tryz.func123.trans (congrArg some (by kernel_rfl))
 t0:=Tryz.underlying0
 a0:=Tryz.isAgg0
 z0:=Tryz.sizeOf0
 v0:=Tryz.zeroValue0
 t3:=Tryz.underlying3
 a3:=Tryz.isAgg3
 z3:=Tryz.sizeOf3
 v3:=Tryz.zeroValue3
 t4:=Tryz.underlying4
 a4:=Tryz.isAgg4
 z4:=Tryz.sizeOf4
 v4:=Tryz.zeroValue4
 t5:=Tryz.underlying5
 a5:=Tryz.isAgg5
 z5:=Tryz.sizeOf5
 v5:=Tryz.zeroValue5
 t9:=Tryz.underlying9
 a9:=Tryz.isAgg9
 z9:=Tryz.sizeOf9
 v9:=Tryz.zeroValue9
 t21:=Tryz.underlying21
 a21:=Tryz.isAgg21
 z21:=Tryz.sizeOf21
 v21:=Tryz.zeroValue21
 t31:=Tryz.underlying22
 a31:=Tryz.isAgg22
 z31:=Tryz.sizeOf22
 v31:=Tryz.zeroValue22
 t46:=Tryz.underlying183
 a46:=Tryz.isAgg183
 z46:=Tryz.sizeOf183
 v46:=Tryz.zeroValue183
 t51:=Tryz.underlying198
 a51:=Tryz.isAgg198
 z51:=Tryz.sizeOf198
 v51:=Tryz.zeroValue198
 t105:=Tryz.underlying208
 a105:=Tryz.isAgg208
 z105:=Tryz.sizeOf208
 v105:=Tryz.zeroValue208
 t119:=Tryz.underlying220
 a119:=Tryz.isAgg220
 z119:=Tryz.sizeOf220
 t138:=Tryz.underlying222
 a138:=Tryz.isAgg222
 z138:=Tryz.sizeOf222
 v138:=Tryz.zeroValue222
 t139:=Tryz.underlying223
 a139:=Tryz.isAgg223
 z139:=Tryz.sizeOf223
 v139:=Tryz.zeroValue223
 t146:=Tryz.underlying199
 a146:=Tryz.isAgg199
 z146:=Tryz.sizeOf199
 v146:=Tryz.zeroValue199
 g1:=by kernel_rfl
 g3:=by kernel_rfl
 g4:=by kernel_rfl }
open Go.RowKit Go.Lib in
theorem Tryz.strings_Split (s sep:ByteArray) (m:Int) (w:World) (hs:s.size<4294967281) (hm:w.cell? ⟨2,0,none⟩=some (.int .i64 m)) (h1:1≤sep.size) :
  Calls Tryz.prog 60 #[.string s,.string sep] w fun e w' =>
   e=.returned (.slice (some ⟨w.heap.size,0,none⟩) (Lib.countB s sep+1) (Lib.countB s sep+1))∧w'=w.alloc (.cells ((Lib.splitB sep 0 (Lib.countB s sep) s).map Value.string).toArray 9):=Any.strings_Split Tryz.lays146 (by kernel_rfl) s sep m w hs hm h1
end Go.Proofs
