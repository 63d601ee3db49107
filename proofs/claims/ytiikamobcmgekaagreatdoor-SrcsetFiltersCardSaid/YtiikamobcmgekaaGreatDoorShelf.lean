/- The kit's contracts of the library, laid by its tool for this program. -/
import Derived.Shelf.Strings.Builder1
import Derived.Shelf.Strings.Builder2
import Derived.Shelf.Strings.OnBuilder
import Derived.Shelf.Strings.Trim
import Derived.Shelf.Small.Utf8
import Derived.Shelf.Small.Strs
import Derived.Shelf.Strings.BuilderF
import Derived.Shelf.Strings.BuilderK
import Derived.Shelf.Strings.Builder2Cap
import Derived.Shelf.Strconv.Itoa0
import Derived.Shelf.Strconv.Itoa1
import Derived.Shelf.LaysM
import Derived.Shelf.Strconv.Itoa2
import Derived.Shelf.Strconv.Itoa3
import Derived.Shelf.Strconv.Itoa4
import Derived.Shelf.Strings.Search1
import Derived.Shelf.Strings.Search2
import Derived.Shelf.Strings.Search3
import Derived.Shelf.Strings.Cut
import Derived.Shelf.Strings.Shaped
import Derived.Shelf.GgClosure.StringsIndexFunc
import Derived.Shelf.GgClosure.StringsTrimFunc
import Derived.Shelf.GgClosure.StringsRunes
import Derived.Shelf.Strings.Prefix
import Derived.Shelf.Unicode.Decode
import Derived.Shelf.Strings.Runes
import Derived.Shelf.Strings.AsciiSet
import Derived.Shelf.Bits.Mul64
import Derived.Shelf.Strings.Repeat
import Derived.Shelf.Unicode.DecodeSlow
import Derived.Shelf.Unicode.DecodeAny
import Derived.Shelf.Unicode.DecodeLast
import Derived.Shelf.Strings.FuncGrows
import Derived.Shelf.Strings.BuilderCap
import Derived.Shelf.Slices.Turned
import Derived.Shelf.Slices.Equal
import Derived.Ground.Names2Prog
import Derived.Shelf.Slices.Clone
import Derived.Shelf.Slices.Empties2
import Derived.Test.YtiikamobcmgekaaGreatDoorProg
namespace Go.Proofs
open Tryz renaming isAgg0→z6b,isAgg3→z5c,isAgg4→z5o,isAgg5→z6c,isAgg9→z5d,prog→z2f,sizeOf0→z50,sizeOf3→z4x,sizeOf4→z5g,sizeOf5→z51,sizeOf9→z4y,underlying0→z41,underlying207→z6k,underlying262→z6l,underlying263→z6j,underlying265→z6m,underlying266→z6n,underlying3→z33,underlying4→z4g,underlying5→z3q,underlying9→z3e,zeroValue0→z5b,zeroValue3→z4a,zeroValue4→z4p,zeroValue5→z5e,zeroValue9→z4b
open Go.Shelf
def Tryz.lays156_ren:Go.Shelf.Ren:=⟨fun|156=>43|165=>104|166=>105|169=>106|240=>183|241=>184|276=>249|277=>250|n=>n,fun|31=>47|9=>9|3=>3|4=>4|0=>0|20=>20|72=>155|76=>159|70=>153|37=>135|75=>158|127=>214|164=>253|5=>5|80=>161|n=>n,fun|n=>n⟩
theorem Tryz.lays156:Go.Proofs.Lays.n156 z2f Tryz.lays156_ren:={
 mixed:=by kernel_rfl
 f156:=Tryz.func43.trans (congrArg some (by kernel_rfl))
 f165:=Tryz.func104.trans (congrArg some (by kernel_rfl))
 f166:=Tryz.func105.trans (congrArg some (by kernel_rfl))
 f169:=Tryz.func106.trans (congrArg some (by kernel_rfl))
 f240:=Tryz.func183.trans (congrArg some (by kernel_rfl))
 f241:=Tryz.func184.trans (congrArg some (by kernel_rfl))
 f276:=Tryz.func249.trans (congrArg some (by kernel_rfl))
 f277:=Tryz.func250.trans (congrArg some (by kernel_rfl))
 t0:=z41
 a0:=z6b
 z0:=z50
 v0:=z5b
 t3:=z33
 a3:=z5c
 z3:=z4x
 v3:=z4a
 t4:=z4g
 a4:=z5o
 z4:=z5g
 v4:=z4p
 t9:=z3e
 a9:=z5d
 z9:=z4y
 v9:=z4b
 t20:=Tryz.underlying20
 a20:=Tryz.isAgg20
 z20:=Tryz.sizeOf20
 v20:=Tryz.zeroValue20
 t31:=Tryz.underlying47
 a31:=Tryz.isAgg47
 z31:=Tryz.sizeOf47
 v31:=Tryz.zeroValue47
 t37:=Tryz.underlying135
 a37:=Tryz.isAgg135
 z37:=Tryz.sizeOf135
 v37:=Tryz.zeroValue135
 t70:=Tryz.underlying153
 a70:=Tryz.isAgg153
 z70:=Tryz.sizeOf153
 v70:=Tryz.zeroValue153
 t72:=Tryz.underlying155
 a72:=Tryz.isAgg155
 z72:=Tryz.sizeOf155
 v72:=Tryz.zeroValue155
 t75:=Tryz.underlying158
 a75:=Tryz.isAgg158
 z75:=Tryz.sizeOf158
 v75:=Tryz.zeroValue158
 t76:=Tryz.underlying159
 a76:=Tryz.isAgg159
 z76:=Tryz.sizeOf159
 v76:=Tryz.zeroValue159
 t127:=Tryz.underlying214
 a127:=Tryz.isAgg214
 z127:=Tryz.sizeOf214
 v127:=Tryz.zeroValue214
 t164:=Tryz.underlying253
 a164:=Tryz.isAgg253
 z164:=Tryz.sizeOf253
 v164:=Tryz.zeroValue253}
theorem Tryz.Builder_Extra_156:Builder.Extra z2f Tryz.lays156_ren:={
 sizeBuilder:=by kernel_rfl
 liesBuilder:=by kernel_rfl
 t5:=z3q
 a5:=z6c
 z5:=z51
 v5:=z5e
 infoByte:=by kernel_rfl
 cellsByte:=by kernel_rfl
 sizeByte:=by kernel_rfl
 neB5:=by decide}
open Go.RowKit in
theorem Tryz.strings_Join_none (a:Option Addr) (c:Nat) (sep:ByteArray) (w:World):
  Calls z2f 43 #[.slice a 0 c,.string sep] w fun e w'=>e= .returned (.string ⟨#[]⟩)/\w'=w:=Any.strings_Join_none Tryz.lays156 Tryz.Builder_Extra_156 a c sep w
open Go.RowKit in
theorem Tryz.strings_Join (bk o c:Nat) (xs:List ByteArray) (sep:ByteArray) (w:World) (hcells: ∀(j:Nat) x,xs[j]? =some x->w.cell? ⟨bk,o+j,none⟩=some (.string x)) (hbk:bk<w.heap.size) (hN:xs.length<=140737488355328) (hcap:xs.length<=c) (hlen:(Lib.join (xs.map (·.data.toList)) sep.data.toList).length<=140737488355328):
  Calls z2f 43 #[.slice (some ⟨bk,o,none⟩) xs.length c,.string sep] w fun e w'=>e= .returned (.string ⟨(Lib.join (xs.map (·.data.toList)) sep.data.toList).toArray⟩)/\Below w.heap.size w w':=Any.strings_Join Tryz.lays156 Tryz.Builder_Extra_156 bk o c xs sep w hcells hbk hN hcap hlen
def Tryz.lays162_ren:Go.Shelf.Ren:=⟨fun|162=>66|232=>84|227=>85|234=>87|236=>89|228=>169|271=>172|151=>171|120=>230|197=>170|152=>229|260=>228|137=>246|119=>262|224=>263|225=>264|217=>280|266=>298|n=>n,fun|9=>9|4=>4|3=>3|5=>5|117=>130|116=>129|0=>0|124=>133|21=>21|105=>207|46=>263|119=>262|139=>266|138=>265|n=>n,fun|3=>0|4=>1|n=>n⟩
theorem Tryz.lays162:Go.Proofs.Lays.n162 z2f Tryz.lays162_ren:={
 mixed:=by kernel_rfl
 f119:=Tryz.func262.trans (congrArg some (by kernel_rfl))
 f120:=Tryz.func230.trans (congrArg some (by kernel_rfl))
 f137:=Tryz.func246.trans (congrArg some (by kernel_rfl))
 f151:=Tryz.func171.trans (congrArg some (by kernel_rfl))
 f152:=Tryz.func229.trans (congrArg some (by kernel_rfl))
 f162:=Tryz.func66.trans (congrArg some (by kernel_rfl))
 f197:=Tryz.func170.trans (congrArg some (by kernel_rfl))
 f217:=Tryz.func280.trans (congrArg some (by kernel_rfl))
 f224:=Tryz.func263.trans (congrArg some (by kernel_rfl))
 f225:=Tryz.func264.trans (congrArg some (by kernel_rfl))
 f227:=Tryz.func85.trans (congrArg some (by kernel_rfl))
 f228:=Tryz.func169.trans (congrArg some (by kernel_rfl))
 f232:=Tryz.func84.trans (congrArg some (by kernel_rfl))
 f234:=Tryz.func87.trans (congrArg some (by kernel_rfl))
 f236:=Tryz.func89.trans (congrArg some (by kernel_rfl))
 f260:=Tryz.func228.trans (congrArg some (by kernel_rfl))
 f266:=Tryz.func298.trans (congrArg some (by kernel_rfl))
 f271:=Tryz.func172.trans (congrArg some (by kernel_rfl))
 t0:=z41
 a0:=z6b
 z0:=z50
 v0:=z5b
 t3:=z33
 a3:=z5c
 z3:=z4x
 v3:=z4a
 t4:=z4g
 a4:=z5o
 z4:=z5g
 v4:=z4p
 t5:=z3q
 a5:=z6c
 z5:=z51
 v5:=z5e
 t9:=z3e
 a9:=z5d
 z9:=z4y
 v9:=z4b
 t21:=Tryz.underlying21
 a21:=Tryz.isAgg21
 z21:=Tryz.sizeOf21
 v21:=Tryz.zeroValue21
 t46:=z6j
 a46:=Tryz.isAgg263
 z46:=Tryz.sizeOf263
 v46:=Tryz.zeroValue263
 t105:=z6k
 a105:=Tryz.isAgg207
 z105:=Tryz.sizeOf207
 v105:=Tryz.zeroValue207
 t116:=Tryz.underlying129
 a116:=Tryz.isAgg129
 z116:=Tryz.sizeOf129
 t117:=Tryz.underlying130
 a117:=Tryz.isAgg130
 z117:=Tryz.sizeOf130
 v117:=Tryz.zeroValue130
 t119:=z6l
 a119:=Tryz.isAgg262
 z119:=Tryz.sizeOf262
 t124:=Tryz.underlying133
 a124:=Tryz.isAgg133
 z124:=Tryz.sizeOf133
 v124:=Tryz.zeroValue133
 t138:=z6m
 a138:=Tryz.isAgg265
 z138:=Tryz.sizeOf265
 v138:=Tryz.zeroValue265
 t139:=z6n
 a139:=Tryz.isAgg266
 z139:=Tryz.sizeOf266
 v139:=Tryz.zeroValue266
 g3:=by kernel_rfl
 g4:=by kernel_rfl}
open Go.RowKit in
theorem Tryz.strings_TrimRight_one (s:ByteArray) (c:UInt8) (hc:c.toNat<128) (w:World) (hs:s.size<=9223372036854775807):
  Calls z2f 66 #[.string s,.string ⟨#[c]⟩] w fun e w'=>e= .returned (.string ⟨(Lib.trimRightB s.data.toList c).toArray⟩)/\w'=w:=Any.strings_TrimRight_one Tryz.lays162 s c hc w hs
def Tryz.lays160_ren:Go.Shelf.Ren:=⟨fun|160=>31|232=>84|231=>83|227=>85|234=>87|233=>86|236=>89|235=>88|228=>169|271=>172|151=>171|197=>170|120=>230|152=>229|260=>228|137=>246|119=>262|224=>263|225=>264|217=>280|266=>298|n=>n,fun|9=>9|4=>4|3=>3|5=>5|117=>130|116=>129|0=>0|124=>133|21=>21|105=>207|46=>263|119=>262|139=>266|138=>265|n=>n,fun|3=>0|4=>1|n=>n⟩
theorem Tryz.lays160:Go.Proofs.Lays.n160 z2f Tryz.lays160_ren:={
 mixed:=by kernel_rfl
 f119:=Tryz.func262.trans (congrArg some (by kernel_rfl))
 f120:=Tryz.func230.trans (congrArg some (by kernel_rfl))
 f137:=Tryz.func246.trans (congrArg some (by kernel_rfl))
 f151:=Tryz.func171.trans (congrArg some (by kernel_rfl))
 f152:=Tryz.func229.trans (congrArg some (by kernel_rfl))
 f160:=Tryz.func31.trans (congrArg some (by kernel_rfl))
 f197:=Tryz.func170.trans (congrArg some (by kernel_rfl))
 f217:=Tryz.func280.trans (congrArg some (by kernel_rfl))
 f224:=Tryz.func263.trans (congrArg some (by kernel_rfl))
 f225:=Tryz.func264.trans (congrArg some (by kernel_rfl))
 f227:=Tryz.func85.trans (congrArg some (by kernel_rfl))
 f228:=Tryz.func169.trans (congrArg some (by kernel_rfl))
 f231:=Tryz.func83.trans (congrArg some (by kernel_rfl))
 f232:=Tryz.func84.trans (congrArg some (by kernel_rfl))
 f233:=Tryz.func86.trans (congrArg some (by kernel_rfl))
 f234:=Tryz.func87.trans (congrArg some (by kernel_rfl))
 f235:=Tryz.func88.trans (congrArg some (by kernel_rfl))
 f236:=Tryz.func89.trans (congrArg some (by kernel_rfl))
 f260:=Tryz.func228.trans (congrArg some (by kernel_rfl))
 f266:=Tryz.func298.trans (congrArg some (by kernel_rfl))
 f271:=Tryz.func172.trans (congrArg some (by kernel_rfl))
 t0:=z41
 a0:=z6b
 z0:=z50
 v0:=z5b
 t3:=z33
 a3:=z5c
 z3:=z4x
 v3:=z4a
 t4:=z4g
 a4:=z5o
 z4:=z5g
 v4:=z4p
 t5:=z3q
 a5:=z6c
 z5:=z51
 v5:=z5e
 t9:=z3e
 a9:=z5d
 z9:=z4y
 v9:=z4b
 t21:=Tryz.underlying21
 a21:=Tryz.isAgg21
 z21:=Tryz.sizeOf21
 v21:=Tryz.zeroValue21
 t46:=z6j
 a46:=Tryz.isAgg263
 z46:=Tryz.sizeOf263
 v46:=Tryz.zeroValue263
 t105:=z6k
 a105:=Tryz.isAgg207
 z105:=Tryz.sizeOf207
 v105:=Tryz.zeroValue207
 t116:=Tryz.underlying129
 a116:=Tryz.isAgg129
 z116:=Tryz.sizeOf129
 t117:=Tryz.underlying130
 a117:=Tryz.isAgg130
 z117:=Tryz.sizeOf130
 v117:=Tryz.zeroValue130
 t119:=z6l
 a119:=Tryz.isAgg262
 z119:=Tryz.sizeOf262
 t124:=Tryz.underlying133
 a124:=Tryz.isAgg133
 z124:=Tryz.sizeOf133
 v124:=Tryz.zeroValue133
 t138:=z6m
 a138:=Tryz.isAgg265
 z138:=Tryz.sizeOf265
 v138:=Tryz.zeroValue265
 t139:=z6n
 a139:=Tryz.isAgg266
 z139:=Tryz.sizeOf266
 v139:=Tryz.zeroValue266
 g3:=by kernel_rfl
 g4:=by kernel_rfl}
open Go.RowKit in
theorem Tryz.strings_Trim_one (s:ByteArray) (c:UInt8) (hc:c.toNat<128) (w:World) (hs:s.size<=9223372036854775807):
  Calls z2f 31 #[.string s,.string ⟨#[c]⟩] w fun e w'=>e= .returned (.string ⟨(Lib.trimB s.data.toList c).toArray⟩)/\(w'=w\/w'=w.drew):=Any.strings_Trim_one Tryz.lays160 s c hc w hs
def Tryz.lays137_ren:Go.Shelf.Ren:=⟨fun|137=>246|217=>280|266=>298|n=>n,fun|9=>9|5=>5|3=>3|n=>n,fun|n=>n⟩
theorem Tryz.lays137:Go.Proofs.Lays.n137 z2f Tryz.lays137_ren:={
 mixed:=by kernel_rfl
 f137:=Tryz.func246.trans (congrArg some (by kernel_rfl))
 f217:=Tryz.func280.trans (congrArg some (by kernel_rfl))
 f266:=Tryz.func298.trans (congrArg some (by kernel_rfl))
 t3:=z33
 a3:=z5c
 z3:=z4x
 v3:=z4a
 t5:=z3q
 a5:=z6c
 z5:=z51
 v5:=z5e
 t9:=z3e
 a9:=z5d
 z9:=z4y
 v9:=z4b}
open Go.RowKit in
theorem Tryz.strings_IndexByte (s:ByteArray) (c:Int) (w:World):
  Calls z2f 246 #[.string s,.int .u8 c] w fun e w'=>e= .returned (.int .i64 (Lib.indexByte s.data.toList c.toNat.toUInt8))/\w'=w:=Any.strings_IndexByte Tryz.lays137 s c w
def Tryz.lays237_ren:Go.Shelf.Ren:=⟨fun|237=>159|272=>227|238=>226|315=>261|273=>260|197=>170|271=>172|260=>228|120=>230|n=>n,fun|9=>9|40=>203|4=>4|3=>3|105=>207|21=>21|0=>0|5=>5|119=>262|46=>263|139=>266|138=>265|n=>n,fun|3=>0|4=>1|n=>n⟩
theorem Tryz.lays237:Go.Proofs.Lays.n237 z2f Tryz.lays237_ren:={
 mixed:=by kernel_rfl
 f120:=Tryz.func230.trans (congrArg some (by kernel_rfl))
 f197:=Tryz.func170.trans (congrArg some (by kernel_rfl))
 f237:=Tryz.func159.trans (congrArg some (by kernel_rfl))
 f238:=Tryz.func226.trans (congrArg some (by kernel_rfl))
 f260:=Tryz.func228.trans (congrArg some (by kernel_rfl))
 f271:=Tryz.func172.trans (congrArg some (by kernel_rfl))
 f272:=Tryz.func227.trans (congrArg some (by kernel_rfl))
 f273:=Tryz.func260.trans (congrArg some (by kernel_rfl))
 f315:=Tryz.func261.trans (congrArg some (by kernel_rfl))
 t0:=z41
 a0:=z6b
 z0:=z50
 v0:=z5b
 t3:=z33
 a3:=z5c
 z3:=z4x
 v3:=z4a
 t4:=z4g
 a4:=z5o
 z4:=z5g
 v4:=z4p
 t5:=z3q
 a5:=z6c
 z5:=z51
 v5:=z5e
 t9:=z3e
 a9:=z5d
 z9:=z4y
 v9:=z4b
 t21:=Tryz.underlying21
 a21:=Tryz.isAgg21
 z21:=Tryz.sizeOf21
 v21:=Tryz.zeroValue21
 t40:=Tryz.underlying203
 a40:=Tryz.isAgg203
 z40:=Tryz.sizeOf203
 v40:=Tryz.zeroValue203
 t46:=z6j
 a46:=Tryz.isAgg263
 z46:=Tryz.sizeOf263
 v46:=Tryz.zeroValue263
 t105:=z6k
 a105:=Tryz.isAgg207
 z105:=Tryz.sizeOf207
 v105:=Tryz.zeroValue207
 t119:=z6l
 a119:=Tryz.isAgg262
 z119:=Tryz.sizeOf262
 t138:=z6m
 a138:=Tryz.isAgg265
 z138:=Tryz.sizeOf265
 v138:=Tryz.zeroValue265
 t139:=z6n
 a139:=Tryz.isAgg266
 z139:=Tryz.sizeOf266
 v139:=Tryz.zeroValue266
 g3:=by kernel_rfl
 g4:=by kernel_rfl}
open Go.RowKit Go.Lib in
theorem Tryz.strings_TrimFunc (g:Nat) (lb:Array Value) (eg: ∀args w,(callFunc g args).run z2f w= .ok (.enter g args) w) (p:Nat->Bool) (s:ByteArray) (w:World) (hs:s.size<=9223372036854775807) (hT:Lib.Utf8Tabs 0 1 w) (hp:PredAt z2f g lb encR p w):
  Calls z2f 159 #[.string s,.func (.func g) #[] lb] w fun e w'=>e= .returned (.string (Lib.trimF p s))/\Below w.heap.size w w':=Any.strings_TrimFunc Tryz.lays237 g lb eg p s w hs hT hp
def Tryz.lays99_ren:Go.Shelf.Ren:=⟨fun|99=>45|206=>109|n=>n,fun|9=>9|4=>4|3=>3|n=>n,fun|n=>n⟩
theorem Tryz.lays99:Go.Proofs.Lays.n99 z2f Tryz.lays99_ren:={
 mixed:=by kernel_rfl
 f99:=Tryz.func45.trans (congrArg some (by kernel_rfl))
 f206:=Tryz.func109.trans (congrArg some (by kernel_rfl))
 t3:=z33
 a3:=z5c
 z3:=z4x
 v3:=z4a
 t4:=z4g
 a4:=z5o
 z4:=z5g
 v4:=z4p
 t9:=z3e
 a9:=z5d
 z9:=z4y
 v9:=z4b}
open Go.RowKit Go.Lib in
theorem Tryz.strings_HasPrefix (s p:ByteArray) (w:World):
  Calls z2f 45 #[.string s,.string p] w fun e w'=>e= .returned (.bool (Lib.hasPrefix s.data.toList p.data.toList))/\w'=w:=Any.strings_HasPrefix Tryz.lays99 s p w
def Tryz.lays110_ren:Go.Shelf.Ren:=⟨fun|110=>255|109=>282|n=>n,fun|31=>47|9=>9|4=>4|3=>3|0=>0|n=>n,fun|n=>n⟩
theorem Tryz.lays110:Go.Proofs.Lays.n110 z2f Tryz.lays110_ren:={
 mixed:=by kernel_rfl
 f109:=Tryz.func282.trans (congrArg some (by kernel_rfl))
 f110:=Tryz.func255.trans (congrArg some (by kernel_rfl))
 t0:=z41
 a0:=z6b
 z0:=z50
 v0:=z5b
 t3:=z33
 a3:=z5c
 z3:=z4x
 v3:=z4a
 t4:=z4g
 a4:=z5o
 z4:=z5g
 v4:=z4p
 t9:=z3e
 a9:=z5d
 z9:=z4y
 v9:=z4b
 t31:=Tryz.underlying47
 a31:=Tryz.isAgg47
 z31:=Tryz.sizeOf47
 v31:=Tryz.zeroValue47}
open Go.Lib in
theorem Tryz.slices_Contains_string (b off n c:Nat) (zs:List ByteArray) (x:ByteArray) (w:World) (hz:n<=zs.length) (hbig:n<=9223372036854775807) (hc: ∀j,j<zs.length->w.cell? ⟨b,off+j,none⟩=some (.string (zs.getD j ByteArray.empty))):
  Calls z2f 255 #[.slice (some ⟨b,off,none⟩) n c,.string x] w fun e w'=>e= .returned (.bool (Lib.containsS (zs.take n) x))/\w'=w:=Any.slices_Contains_string Tryz.lays110 b off n c zs x w hz hbig hc
open Go.Lib in
theorem Tryz.slices_Contains_string_empty (a:Option Addr) (c:Nat) (x:ByteArray) (w:World):
  Calls z2f 255 #[.slice a 0 c,.string x] w fun e w'=>e= .returned (.bool false)/\w'=w:=Any.slices_Contains_string_empty Tryz.lays110 a c x w
end Go.Proofs

