/- The kit's contracts of the library, laid by its tool for this program. -/
import Derived.Shelf.Strings.Builder1
import Derived.Shelf.Strings.Builder2
import Derived.Shelf.Strings.OnBuilder
import Derived.Shelf.Small.Utf8
import Derived.Shelf.Small.Strs
import Derived.Shelf.Strings.BuilderF
import Derived.Shelf.Strings.BuilderK
import Derived.Shelf.Strings.Builder2Cap
import Derived.Shelf.Strconv.Itoa0
import Derived.Shelf.Strconv.Itoa1
import Derived.Shelf.LaysM
import Derived.Shelf.Strconv.Itoa2
import Derived.Shelf.Strconv.Itoa3
import Derived.Shelf.Strconv.Itoa4
import Derived.Shelf.Strings.Search1
import Derived.Shelf.GgClosure.StringsIndexFunc
import Derived.Shelf.GgClosure.StringsTrimFunc
import Derived.Shelf.GgClosure.StringsRunes
import Derived.Shelf.Strings.Prefix
import Derived.Shelf.Unicode.Decode
import Derived.Shelf.Unicode.DecodeSlow
import Derived.Shelf.Unicode.DecodeAny
import Derived.Shelf.Unicode.DecodeLast
import Derived.Shelf.Strings.FuncGrows
import Derived.Shelf.Strings.BuilderCap
import Derived.Shelf.Slices.Turned
import Derived.Shelf.Slices.Equal
import Derived.Ground.Names2Prog
import Derived.Shelf.Slices.Clone
import Derived.Shelf.Slices.Empties2
import Derived.Test.YtbhhgbgfaemfdaaGreatDoorProg
namespace Go.Proofs
open Go.Shelf
def Tryz.lays156_ren:Go.Shelf.Ren:=⟨fun|156=>106|165=>166|166=>167|169=>168|240=>199|241=>200|276=>221|277=>222|n=>n,fun|31=>39|9=>9|3=>3|4=>4|0=>0|20=>20|72=>181|76=>184|70=>179|37=>56|75=>183|127=>209|164=>229|5=>5|80=>186|n=>n,fun|n=>n⟩
theorem Tryz.lays156:Go.Proofs.Lays.n156 Tryz.prog Tryz.lays156_ren:={
 mixed:=by kernel_rfl
 f156:=Tryz.func106.trans (congrArg some (by kernel_rfl))
 f165:=Tryz.func166.trans (congrArg some (by kernel_rfl))
 f166:=Tryz.func167.trans (congrArg some (by kernel_rfl))
 f169:=Tryz.func168.trans (congrArg some (by kernel_rfl))
 f240:=Tryz.func199.trans (congrArg some (by kernel_rfl))
 f241:=Tryz.func200.trans (congrArg some (by kernel_rfl))
 f276:=Tryz.func221.trans (congrArg some (by kernel_rfl))
 f277:=Tryz.func222.trans (congrArg some (by kernel_rfl))
 t0:=Tryz.underlying0
 a0:=Tryz.isAgg0
 z0:=Tryz.sizeOf0
 v0:=Tryz.zeroValue0
 t3:=Tryz.underlying3
 a3:=Tryz.isAgg3
 z3:=Tryz.sizeOf3
 v3:=Tryz.zeroValue3
 t4:=Tryz.underlying4
 a4:=Tryz.isAgg4
 z4:=Tryz.sizeOf4
 v4:=Tryz.zeroValue4
 t9:=Tryz.underlying9
 a9:=Tryz.isAgg9
 z9:=Tryz.sizeOf9
 v9:=Tryz.zeroValue9
 t20:=Tryz.underlying20
 a20:=Tryz.isAgg20
 z20:=Tryz.sizeOf20
 v20:=Tryz.zeroValue20
 t31:=Tryz.underlying39
 a31:=Tryz.isAgg39
 z31:=Tryz.sizeOf39
 v31:=Tryz.zeroValue39
 t37:=Tryz.underlying56
 a37:=Tryz.isAgg56
 z37:=Tryz.sizeOf56
 v37:=Tryz.zeroValue56
 t70:=Tryz.underlying179
 a70:=Tryz.isAgg179
 z70:=Tryz.sizeOf179
 v70:=Tryz.zeroValue179
 t72:=Tryz.underlying181
 a72:=Tryz.isAgg181
 z72:=Tryz.sizeOf181
 v72:=Tryz.zeroValue181
 t75:=Tryz.underlying183
 a75:=Tryz.isAgg183
 z75:=Tryz.sizeOf183
 v75:=Tryz.zeroValue183
 t76:=Tryz.underlying184
 a76:=Tryz.isAgg184
 z76:=Tryz.sizeOf184
 v76:=Tryz.zeroValue184
 t127:=Tryz.underlying209
 a127:=Tryz.isAgg209
 z127:=Tryz.sizeOf209
 v127:=Tryz.zeroValue209
 t164:=Tryz.underlying229
 a164:=Tryz.isAgg229
 z164:=Tryz.sizeOf229
 v164:=Tryz.zeroValue229}
theorem Tryz.Builder_Extra_156:Builder.Extra Tryz.prog Tryz.lays156_ren:={
 sizeBuilder:=by kernel_rfl
 liesBuilder:=by kernel_rfl
 t5:=Tryz.underlying5
 a5:=Tryz.isAgg5
 z5:=Tryz.sizeOf5
 v5:=Tryz.zeroValue5
 infoByte:=by kernel_rfl
 cellsByte:=by kernel_rfl
 sizeByte:=by kernel_rfl
 neB5:=by decide}
open Go.RowKit in
theorem Tryz.strings_Join (bk o c:Nat) (xs:List ByteArray) (sep:ByteArray) (w:World) (hcells: ∀(j:Nat) x,xs[j]? =some x->w.cell? ⟨bk,o+j,none⟩=some (.string x)) (hbk:bk<w.heap.size) (hN:xs.length<=140737488355328) (hcap:xs.length<=c) (hlen:(Lib.join (xs.map (·.data.toList)) sep.data.toList).length<=140737488355328):
  Calls Tryz.prog 106 #[.slice (some ⟨bk,o,none⟩) xs.length c,.string sep] w fun e w'=>e= .returned (.string ⟨(Lib.join (xs.map (·.data.toList)) sep.data.toList).toArray⟩)/\Below w.heap.size w w':=Any.strings_Join Tryz.lays156 Tryz.Builder_Extra_156 bk o c xs sep w hcells hbk hN hcap hlen
def Tryz.lays137_ren:Go.Shelf.Ren:=⟨fun|137=>207|217=>225|266=>230|n=>n,fun|9=>9|5=>5|3=>3|n=>n,fun|n=>n⟩
theorem Tryz.lays137:Go.Proofs.Lays.n137 Tryz.prog Tryz.lays137_ren:={
 mixed:=by kernel_rfl
 f137:=Tryz.func207.trans (congrArg some (by kernel_rfl))
 f217:=Tryz.func225.trans (congrArg some (by kernel_rfl))
 f266:=Tryz.func230.trans (congrArg some (by kernel_rfl))
 t3:=Tryz.underlying3
 a3:=Tryz.isAgg3
 z3:=Tryz.sizeOf3
 v3:=Tryz.zeroValue3
 t5:=Tryz.underlying5
 a5:=Tryz.isAgg5
 z5:=Tryz.sizeOf5
 v5:=Tryz.zeroValue5
 t9:=Tryz.underlying9
 a9:=Tryz.isAgg9
 z9:=Tryz.sizeOf9
 v9:=Tryz.zeroValue9}
open Go.RowKit in
theorem Tryz.strings_IndexByte (s:ByteArray) (c:Int) (w:World):
  Calls Tryz.prog 207 #[.string s,.int .u8 c] w fun e w'=>e= .returned (.int .i64 (Lib.indexByte s.data.toList c.toNat.toUInt8))/\w'=w:=Any.strings_IndexByte Tryz.lays137 s c w
def Tryz.laysM173_ren:Go.Shelf.Ren:=⟨fun|173=>62|246=>108|283=>169|284=>170|285=>171|286=>172|129=>202|317=>201|318=>203|319=>204|320=>205|337=>223|338=>224|n=>n,fun|2=>2|3=>3|9=>9|4=>4|171=>187|0=>0|53=>188|37=>56|5=>5|173=>191|212=>211|51=>212|20=>20|213=>213|46=>214|232=>233|233=>234|n=>n,fun|17=>0|18=>4|19=>5|n=>n⟩
theorem Tryz.laysM173:Go.Proofs.LaysM.n173 Tryz.prog Tryz.laysM173_ren:={
 mixed:=by kernel_rfl
 f129:=Tryz.func202.trans (congrArg some (by kernel_rfl))
 f173:=Tryz.func62.trans (congrArg some (by kernel_rfl))
 f246:=Tryz.func108.trans (congrArg some (by kernel_rfl))
 f283:=Tryz.func169.trans (congrArg some (by kernel_rfl))
 f284:=Tryz.func170.trans (congrArg some (by kernel_rfl))
 f285:=Tryz.func171.trans (congrArg some (by kernel_rfl))
 f286:=Tryz.func172.trans (congrArg some (by kernel_rfl))
 f317:=Tryz.func201.trans (congrArg some (by kernel_rfl))
 f318:=Tryz.func203.trans (congrArg some (by kernel_rfl))
 f319:=Tryz.func204.trans (congrArg some (by kernel_rfl))
 f320:=Tryz.func205.trans (congrArg some (by kernel_rfl))
 f337:=Tryz.func223.trans (congrArg some (by kernel_rfl))
 f338:=Tryz.func224.trans (congrArg some (by kernel_rfl))
 t0:=Tryz.underlying0
 a0:=Tryz.isAgg0
 z0:=Tryz.sizeOf0
 v0:=Tryz.zeroValue0
 t2:=Tryz.underlying2
 a2:=Tryz.isAgg2
 z2:=Tryz.sizeOf2
 v2:=Tryz.zeroValue2
 t3:=Tryz.underlying3
 a3:=Tryz.isAgg3
 z3:=Tryz.sizeOf3
 v3:=Tryz.zeroValue3
 t4:=Tryz.underlying4
 a4:=Tryz.isAgg4
 z4:=Tryz.sizeOf4
 v4:=Tryz.zeroValue4
 t5:=Tryz.underlying5
 a5:=Tryz.isAgg5
 z5:=Tryz.sizeOf5
 v5:=Tryz.zeroValue5
 t9:=Tryz.underlying9
 a9:=Tryz.isAgg9
 z9:=Tryz.sizeOf9
 v9:=Tryz.zeroValue9
 t20:=Tryz.underlying20
 a20:=Tryz.isAgg20
 z20:=Tryz.sizeOf20
 v20:=Tryz.zeroValue20
 t37:=Tryz.underlying56
 a37:=Tryz.isAgg56
 z37:=Tryz.sizeOf56
 v37:=Tryz.zeroValue56
 t46:=Tryz.underlying214
 a46:=Tryz.isAgg214
 z46:=Tryz.sizeOf214
 v46:=Tryz.zeroValue214
 t51:=Tryz.underlying212
 a51:=Tryz.isAgg212
 z51:=Tryz.sizeOf212
 v51:=Tryz.zeroValue212
 t53:=Tryz.underlying188
 a53:=Tryz.isAgg188
 z53:=Tryz.sizeOf188
 v53:=Tryz.zeroValue188
 t171:=Tryz.underlying187
 a171:=Tryz.isAgg187
 z171:=Tryz.sizeOf187
 v171:=Tryz.zeroValue187
 t173:=Tryz.underlying191
 a173:=Tryz.isAgg191
 z173:=Tryz.sizeOf191
 v173:=Tryz.zeroValue191
 t212:=Tryz.underlying211
 a212:=Tryz.isAgg211
 z212:=Tryz.sizeOf211
 v212:=Tryz.zeroValue211
 t213:=Tryz.underlying213
 a213:=Tryz.isAgg213
 z213:=Tryz.sizeOf213
 t232:=Tryz.underlying233
 a232:=Tryz.isAgg233
 z232:=Tryz.sizeOf233
 v232:=Tryz.zeroValue233
 t233:=Tryz.underlying234
 a233:=Tryz.isAgg234
 z233:=Tryz.sizeOf234
 v233:=Tryz.zeroValue234
 g17:=by kernel_rfl
 g18:=by kernel_rfl
 g19:=by kernel_rfl
 i0:=by kernel_rfl
 i2:=by kernel_rfl
 i3:=by kernel_rfl
 i4:=by kernel_rfl
 i5:=by kernel_rfl
 i9:=by kernel_rfl
 i20:=by kernel_rfl
 i37:=by kernel_rfl
 i46:=by kernel_rfl
 i51:=by kernel_rfl
 i53:=by kernel_rfl
 i171:=by kernel_rfl
 i173:=by kernel_rfl
 i212:=by kernel_rfl
 i232:=by kernel_rfl
 i233:=by kernel_rfl
 m17:=by kernel_rfl
 m18:=by kernel_rfl
 m19:=by kernel_rfl}
open Go.RowKit Go.Sort Go.Lib in
theorem Tryz.strconv_FormatInt_10 (n:Int) (h0: -9223372036854775808<=n) (h1:n<=9223372036854775807) (w:World) (htab:Lib.TabIs Tryz.prog w "internal/strconv.uint64pow10" .u64 Lib.pow10Tab):
  Calls Tryz.prog 62 #[.int .i64 n,.int .i64 10] w fun e w'=>e= .returned (.string ⟨(Lib.itoa n).toArray⟩)/\ ∃k os,w'=grow (w.drewN k) os:=Any.strconv_FormatInt_10 Tryz.laysM173 n h0 h1 w htab
def Tryz.lays237_ren:Go.Shelf.Ren:=⟨fun|237=>48|272=>88|238=>87|315=>144|273=>142|197=>143|271=>185|260=>186|120=>219|n=>n,fun|9=>9|40=>55|4=>4|3=>3|105=>161|21=>21|0=>0|5=>5|119=>225|46=>214|139=>228|138=>227|n=>n,fun|3=>1|4=>2|n=>n⟩
theorem Tryz.lays237:Go.Proofs.Lays.n237 Tryz.prog Tryz.lays237_ren:={
 mixed:=by kernel_rfl
 f120:=Tryz.func219.trans (congrArg some (by kernel_rfl))
 f197:=Tryz.func143.trans (congrArg some (by kernel_rfl))
 f237:=Tryz.func48.trans (congrArg some (by kernel_rfl))
 f238:=Tryz.func87.trans (congrArg some (by kernel_rfl))
 f260:=Tryz.func186.trans (congrArg some (by kernel_rfl))
 f271:=Tryz.func185.trans (congrArg some (by kernel_rfl))
 f272:=Tryz.func88.trans (congrArg some (by kernel_rfl))
 f273:=Tryz.func142.trans (congrArg some (by kernel_rfl))
 f315:=Tryz.func144.trans (congrArg some (by kernel_rfl))
 t0:=Tryz.underlying0
 a0:=Tryz.isAgg0
 z0:=Tryz.sizeOf0
 v0:=Tryz.zeroValue0
 t3:=Tryz.underlying3
 a3:=Tryz.isAgg3
 z3:=Tryz.sizeOf3
 v3:=Tryz.zeroValue3
 t4:=Tryz.underlying4
 a4:=Tryz.isAgg4
 z4:=Tryz.sizeOf4
 v4:=Tryz.zeroValue4
 t5:=Tryz.underlying5
 a5:=Tryz.isAgg5
 z5:=Tryz.sizeOf5
 v5:=Tryz.zeroValue5
 t9:=Tryz.underlying9
 a9:=Tryz.isAgg9
 z9:=Tryz.sizeOf9
 v9:=Tryz.zeroValue9
 t21:=Tryz.underlying21
 a21:=Tryz.isAgg21
 z21:=Tryz.sizeOf21
 v21:=Tryz.zeroValue21
 t40:=Tryz.underlying55
 a40:=Tryz.isAgg55
 z40:=Tryz.sizeOf55
 v40:=Tryz.zeroValue55
 t46:=Tryz.underlying214
 a46:=Tryz.isAgg214
 z46:=Tryz.sizeOf214
 v46:=Tryz.zeroValue214
 t105:=Tryz.underlying161
 a105:=Tryz.isAgg161
 z105:=Tryz.sizeOf161
 v105:=Tryz.zeroValue161
 t119:=Tryz.underlying225
 a119:=Tryz.isAgg225
 z119:=Tryz.sizeOf225
 t138:=Tryz.underlying227
 a138:=Tryz.isAgg227
 z138:=Tryz.sizeOf227
 v138:=Tryz.zeroValue227
 t139:=Tryz.underlying228
 a139:=Tryz.isAgg228
 z139:=Tryz.sizeOf228
 v139:=Tryz.zeroValue228
 g3:=by kernel_rfl
 g4:=by kernel_rfl}
open Go.RowKit Go.Lib in
theorem Tryz.strings_TrimFunc (g:Nat) (lb:Array Value) (eg: ∀args w,(callFunc g args).run Tryz.prog w= .ok (.enter g args) w) (p:Nat->Bool) (s:ByteArray) (w:World) (hs:s.size<=9223372036854775807) (hT:Lib.Utf8Tabs 1 2 w) (hp:PredAt Tryz.prog g lb encR p w):
  Calls Tryz.prog 48 #[.string s,.func (.func g) #[] lb] w fun e w'=>e= .returned (.string (Lib.trimF p s))/\Below w.heap.size w w':=Any.strings_TrimFunc Tryz.lays237 g lb eg p s w hs hT hp
def Tryz.lays99_ren:Go.Shelf.Ren:=⟨fun|99=>220|206=>229|n=>n,fun|9=>9|4=>4|3=>3|n=>n,fun|n=>n⟩
theorem Tryz.lays99:Go.Proofs.Lays.n99 Tryz.prog Tryz.lays99_ren:={
 mixed:=by kernel_rfl
 f99:=Tryz.func220.trans (congrArg some (by kernel_rfl))
 f206:=Tryz.func229.trans (congrArg some (by kernel_rfl))
 t3:=Tryz.underlying3
 a3:=Tryz.isAgg3
 z3:=Tryz.sizeOf3
 v3:=Tryz.zeroValue3
 t4:=Tryz.underlying4
 a4:=Tryz.isAgg4
 z4:=Tryz.sizeOf4
 v4:=Tryz.zeroValue4
 t9:=Tryz.underlying9
 a9:=Tryz.isAgg9
 z9:=Tryz.sizeOf9
 v9:=Tryz.zeroValue9}
open Go.RowKit Go.Lib in
theorem Tryz.strings_HasPrefix (s p:ByteArray) (w:World):
  Calls Tryz.prog 220 #[.string s,.string p] w fun e w'=>e= .returned (.bool (Lib.hasPrefix s.data.toList p.data.toList))/\w'=w:=Any.strings_HasPrefix Tryz.lays99 s p w
def Tryz.lays110_ren:Go.Shelf.Ren:=⟨fun|110=>121|109=>179|n=>n,fun|31=>39|9=>9|4=>4|3=>3|0=>0|n=>n,fun|n=>n⟩
theorem Tryz.lays110:Go.Proofs.Lays.n110 Tryz.prog Tryz.lays110_ren:={
 mixed:=by kernel_rfl
 f109:=Tryz.func179.trans (congrArg some (by kernel_rfl))
 f110:=Tryz.func121.trans (congrArg some (by kernel_rfl))
 t0:=Tryz.underlying0
 a0:=Tryz.isAgg0
 z0:=Tryz.sizeOf0
 v0:=Tryz.zeroValue0
 t3:=Tryz.underlying3
 a3:=Tryz.isAgg3
 z3:=Tryz.sizeOf3
 v3:=Tryz.zeroValue3
 t4:=Tryz.underlying4
 a4:=Tryz.isAgg4
 z4:=Tryz.sizeOf4
 v4:=Tryz.zeroValue4
 t9:=Tryz.underlying9
 a9:=Tryz.isAgg9
 z9:=Tryz.sizeOf9
 v9:=Tryz.zeroValue9
 t31:=Tryz.underlying39
 a31:=Tryz.isAgg39
 z31:=Tryz.sizeOf39
 v31:=Tryz.zeroValue39}
open Go.Lib in
theorem Tryz.slices_Contains_string (b off n c:Nat) (zs:List ByteArray) (x:ByteArray) (w:World) (hz:n<=zs.length) (hbig:n<=9223372036854775807) (hc: ∀j,j<zs.length->w.cell? ⟨b,off+j,none⟩=some (.string (zs.getD j ByteArray.empty))):
  Calls Tryz.prog 121 #[.slice (some ⟨b,off,none⟩) n c,.string x] w fun e w'=>e= .returned (.bool (Lib.containsS (zs.take n) x))/\w'=w:=Any.slices_Contains_string Tryz.lays110 b off n c zs x w hz hbig hc
open Go.Lib in
theorem Tryz.slices_Contains_string_empty (a:Option Addr) (c:Nat) (x:ByteArray) (w:World):
  Calls Tryz.prog 121 #[.slice a 0 c,.string x] w fun e w'=>e= .returned (.bool false)/\w'=w:=Any.slices_Contains_string_empty Tryz.lays110 a c x w
end Go.Proofs

