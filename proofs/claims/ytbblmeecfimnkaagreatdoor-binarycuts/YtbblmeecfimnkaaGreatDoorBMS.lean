/- Contracts of the library at this dump, off the shelf. No condition beyond their own premises. -/
import Derived.Shelf.Strings.Builder1
import Derived.Shelf.Strings.Builder2
import Derived.Shelf.Strings.OnBuilder
import Derived.Shelf.Strings.BuilderF
import Derived.Shelf.Strings.BuilderK
import Derived.Shelf.Strings.Builder2Cap
import Derived.Shelf.Strconv.Itoa0
import Derived.Shelf.Strconv.Itoa1
import Derived.Shelf.LaysM
import Derived.Shelf.Strconv.Itoa2
import Derived.Shelf.Strconv.Itoa3
import Derived.Shelf.Strings.Fields
import Derived.Shelf.Strings.SplitShaped
import Derived.Shelf.Unicode.Latin
import Derived.Shelf.Unicode.Is16White
import Derived.Shelf.Unicode.IsSpaceAny
import Derived.Shelf.Unicode.Is16WhiteD
import Derived.Shelf.Unicode.Is16Any
import Derived.Shelf.Unicode.Is32Any
import Derived.Shelf.Unicode.ExclAny
import Derived.Test.YtbblmeecfimnkaaGreatDoorProg
namespace Go.Proofs
open Go.Shelf
def Tryz.lays169_ren:Go.Shelf.Ren:=⟨fun | 169=>26 | n=>n,fun | 70=>56 | 9=>9 | 0=>0 | 72=>58 | 37=>52 | 127=>122 | 3=>3 | 5=>5 | n=>n,fun | n=>n⟩
theorem Tryz.lays169:Go.Proofs.Lays.n169 Tryz.prog Tryz.lays169_ren:={
  mixed:=by kernel_rfl
  f169:=Tryz.func26.trans (congrArg some (by kernel_rfl))
  t0:=Tryz.underlying0
  a0:=Tryz.isAgg0
  z0:=Tryz.sizeOf0
  v0:=Tryz.zeroValue0
  t3:=Tryz.underlying3
  a3:=Tryz.isAgg3
  z3:=Tryz.sizeOf3
  v3:=Tryz.zeroValue3
  t9:=Tryz.underlying9
  a9:=Tryz.isAgg9
  z9:=Tryz.sizeOf9
  v9:=Tryz.zeroValue9
  t37:=Tryz.underlying52
  a37:=Tryz.isAgg52
  z37:=Tryz.sizeOf52
  v37:=Tryz.zeroValue52
  t70:=Tryz.underlying56
  a70:=Tryz.isAgg56
  z70:=Tryz.sizeOf56
  v70:=Tryz.zeroValue56
  t72:=Tryz.underlying58
  a72:=Tryz.isAgg58
  z72:=Tryz.sizeOf58
  v72:=Tryz.zeroValue58
  t127:=Tryz.underlying122
  a127:=Tryz.isAgg122
  z127:=Tryz.sizeOf122
  v127:=Tryz.zeroValue122 }
theorem Tryz.Builder_Extra_169:Builder.Extra Tryz.prog Tryz.lays169_ren:={
  sizeBuilder:=by kernel_rfl
  liesBuilder:=by kernel_rfl
  t5:=Tryz.underlying5
  a5:=Tryz.isAgg5
  z5:=Tryz.sizeOf5
  v5:=Tryz.zeroValue5
  infoByte:=by kernel_rfl
  cellsByte:=by kernel_rfl
  sizeByte:=by kernel_rfl
  neB5:=by decide }
open Go.RowKit in
theorem Tryz.Builder_String_any (B b:Nat) (l:List UInt8) (w:World) (h:Lib.IsBuilder 58 5 B b (Lib.byteCells l) w) (hBw:B≤w.heap.size) :
    Calls Tryz.prog 26 #[.pointer (some ⟨b,0,none⟩)] w fun e w'=>e=.returned (.string ⟨l.toArray⟩)∧Below B w w':=Any.Builder_String_any Tryz.lays169 Tryz.Builder_Extra_169 B b l w h hBw
def Tryz.lays156_ren:Go.Shelf.Ren:=⟨fun | 156=>81 | 165=>118 | 166=>44 | 169=>26 | 240=>79 | 241=>136 | 276=>116 | 277=>148 | n=>n,fun | 31=>92 | 9=>9 | 3=>3 | 4=>4 | 0=>0 | 20=>20 | 72=>58 | 76=>90 | 70=>56 | 37=>52 | 75=>89 | 127=>122 | 164=>169 | 5=>5 | 80=>65 | n=>n,fun | n=>n⟩
theorem Tryz.lays156:Go.Proofs.Lays.n156 Tryz.prog Tryz.lays156_ren:={
  mixed:=by kernel_rfl
  f156:=Tryz.func81.trans (congrArg some (by kernel_rfl))
  f165:=Tryz.func118.trans (congrArg some (by kernel_rfl))
  f166:=Tryz.func44.trans (congrArg some (by kernel_rfl))
  f169:=Tryz.func26.trans (congrArg some (by kernel_rfl))
  f240:=Tryz.func79.trans (congrArg some (by kernel_rfl))
  f241:=Tryz.func136.trans (congrArg some (by kernel_rfl))
  f276:=Tryz.func116.trans (congrArg some (by kernel_rfl))
  f277:=Tryz.func148.trans (congrArg some (by kernel_rfl))
  t0:=Tryz.underlying0
  a0:=Tryz.isAgg0
  z0:=Tryz.sizeOf0
  v0:=Tryz.zeroValue0
  t3:=Tryz.underlying3
  a3:=Tryz.isAgg3
  z3:=Tryz.sizeOf3
  v3:=Tryz.zeroValue3
  t4:=Tryz.underlying4
  a4:=Tryz.isAgg4
  z4:=Tryz.sizeOf4
  v4:=Tryz.zeroValue4
  t9:=Tryz.underlying9
  a9:=Tryz.isAgg9
  z9:=Tryz.sizeOf9
  v9:=Tryz.zeroValue9
  t20:=Tryz.underlying20
  a20:=Tryz.isAgg20
  z20:=Tryz.sizeOf20
  v20:=Tryz.zeroValue20
  t31:=Tryz.underlying92
  a31:=Tryz.isAgg92
  z31:=Tryz.sizeOf92
  v31:=Tryz.zeroValue92
  t37:=Tryz.underlying52
  a37:=Tryz.isAgg52
  z37:=Tryz.sizeOf52
  v37:=Tryz.zeroValue52
  t70:=Tryz.underlying56
  a70:=Tryz.isAgg56
  z70:=Tryz.sizeOf56
  v70:=Tryz.zeroValue56
  t72:=Tryz.underlying58
  a72:=Tryz.isAgg58
  z72:=Tryz.sizeOf58
  v72:=Tryz.zeroValue58
  t75:=Tryz.underlying89
  a75:=Tryz.isAgg89
  z75:=Tryz.sizeOf89
  v75:=Tryz.zeroValue89
  t76:=Tryz.underlying90
  a76:=Tryz.isAgg90
  z76:=Tryz.sizeOf90
  v76:=Tryz.zeroValue90
  t127:=Tryz.underlying122
  a127:=Tryz.isAgg122
  z127:=Tryz.sizeOf122
  v127:=Tryz.zeroValue122
  t164:=Tryz.underlying169
  a164:=Tryz.isAgg169
  z164:=Tryz.sizeOf169
  v164:=Tryz.zeroValue169 }
theorem Tryz.Builder_Extra_156:Builder.Extra Tryz.prog Tryz.lays156_ren:={
  sizeBuilder:=by kernel_rfl
  liesBuilder:=by kernel_rfl
  t5:=Tryz.underlying5
  a5:=Tryz.isAgg5
  z5:=Tryz.sizeOf5
  v5:=Tryz.zeroValue5
  infoByte:=by kernel_rfl
  cellsByte:=by kernel_rfl
  sizeByte:=by kernel_rfl
  neB5:=by decide }
open Go.RowKit in
theorem Tryz.strings_Join_none (a:Option Addr) (c:Nat) (sep:ByteArray) (w:World) :
    Calls Tryz.prog 81 #[.slice a 0 c,.string sep] w fun e w'=>e=.returned (.string ⟨#[]⟩)∧w'=w:=Any.strings_Join_none Tryz.lays156 Tryz.Builder_Extra_156 a c sep w
open Go.RowKit in
theorem Tryz.strings_Join (bk o c:Nat) (xs:List ByteArray) (sep:ByteArray) (w:World) (hcells:∀ (j:Nat) x,xs[j]? = some x→w.cell? ⟨bk,o+j,none⟩=some (.string x)) (hbk:bk < w.heap.size) (hN:xs.length≤140737488355328) (hcap:xs.length≤c) (hlen:(Lib.join (xs.map (·.data.toList)) sep.data.toList).length≤140737488355328) :
    Calls Tryz.prog 81 #[.slice (some ⟨bk,o,none⟩) xs.length c,.string sep] w fun e w'=>e=.returned (.string ⟨(Lib.join (xs.map (·.data.toList)) sep.data.toList).toArray⟩)∧Below w.heap.size w w':=Any.strings_Join Tryz.lays156 Tryz.Builder_Extra_156 bk o c xs sep w hcells hbk hN hcap hlen
def Tryz.laysM171_ren:Go.Shelf.Ren:=⟨fun | 171=>80 | 243=>117 | 246=>135 | 283=>144 | 284=>145 | 285=>146 | 286=>147 | 129=>152 | 317=>151 | 318=>153 | 319=>154 | 320=>155 | 337=>158 | 338=>159 | n=>n,fun | 3=>3 | 9=>9 | 2=>2 | 4=>4 | 171=>202 | 0=>0 | 53=>203 | 37=>52 | 5=>5 | 173=>206 | 212=>213 | 51=>174 | 20=>20 | 213=>214 | 46=>123 | 232=>218 | 233=>219 | n=>n,fun | 17=>2 | 18=>4 | 19=>5 | n=>n⟩
theorem Tryz.laysM171:Go.Proofs.LaysM.n171 Tryz.prog Tryz.laysM171_ren:={
  mixed:=by kernel_rfl
  f129:=Tryz.func152.trans (congrArg some (by kernel_rfl))
  f171:=Tryz.func80.trans (congrArg some (by kernel_rfl))
  f243:=Tryz.func117.trans (congrArg some (by kernel_rfl))
  f246:=Tryz.func135.trans (congrArg some (by kernel_rfl))
  f283:=Tryz.func144.trans (congrArg some (by kernel_rfl))
  f284:=Tryz.func145.trans (congrArg some (by kernel_rfl))
  f285:=Tryz.func146.trans (congrArg some (by kernel_rfl))
  f286:=Tryz.func147.trans (congrArg some (by kernel_rfl))
  f317:=Tryz.func151.trans (congrArg some (by kernel_rfl))
  f318:=Tryz.func153.trans (congrArg some (by kernel_rfl))
  f319:=Tryz.func154.trans (congrArg some (by kernel_rfl))
  f320:=Tryz.func155.trans (congrArg some (by kernel_rfl))
  f337:=Tryz.func158.trans (congrArg some (by kernel_rfl))
  f338:=Tryz.func159.trans (congrArg some (by kernel_rfl))
  t0:=Tryz.underlying0
  a0:=Tryz.isAgg0
  z0:=Tryz.sizeOf0
  v0:=Tryz.zeroValue0
  t2:=Tryz.underlying2
  a2:=Tryz.isAgg2
  z2:=Tryz.sizeOf2
  v2:=Tryz.zeroValue2
  t3:=Tryz.underlying3
  a3:=Tryz.isAgg3
  z3:=Tryz.sizeOf3
  v3:=Tryz.zeroValue3
  t4:=Tryz.underlying4
  a4:=Tryz.isAgg4
  z4:=Tryz.sizeOf4
  v4:=Tryz.zeroValue4
  t5:=Tryz.underlying5
  a5:=Tryz.isAgg5
  z5:=Tryz.sizeOf5
  v5:=Tryz.zeroValue5
  t9:=Tryz.underlying9
  a9:=Tryz.isAgg9
  z9:=Tryz.sizeOf9
  v9:=Tryz.zeroValue9
  t20:=Tryz.underlying20
  a20:=Tryz.isAgg20
  z20:=Tryz.sizeOf20
  v20:=Tryz.zeroValue20
  t37:=Tryz.underlying52
  a37:=Tryz.isAgg52
  z37:=Tryz.sizeOf52
  v37:=Tryz.zeroValue52
  t46:=Tryz.underlying123
  a46:=Tryz.isAgg123
  z46:=Tryz.sizeOf123
  v46:=Tryz.zeroValue123
  t51:=Tryz.underlying174
  a51:=Tryz.isAgg174
  z51:=Tryz.sizeOf174
  v51:=Tryz.zeroValue174
  t53:=Tryz.underlying203
  a53:=Tryz.isAgg203
  z53:=Tryz.sizeOf203
  v53:=Tryz.zeroValue203
  t171:=Tryz.underlying202
  a171:=Tryz.isAgg202
  z171:=Tryz.sizeOf202
  v171:=Tryz.zeroValue202
  t173:=Tryz.underlying206
  a173:=Tryz.isAgg206
  z173:=Tryz.sizeOf206
  v173:=Tryz.zeroValue206
  t212:=Tryz.underlying213
  a212:=Tryz.isAgg213
  z212:=Tryz.sizeOf213
  v212:=Tryz.zeroValue213
  t213:=Tryz.underlying214
  a213:=Tryz.isAgg214
  z213:=Tryz.sizeOf214
  t232:=Tryz.underlying218
  a232:=Tryz.isAgg218
  z232:=Tryz.sizeOf218
  v232:=Tryz.zeroValue218
  t233:=Tryz.underlying219
  a233:=Tryz.isAgg219
  z233:=Tryz.sizeOf219
  v233:=Tryz.zeroValue219
  g17:=by kernel_rfl
  g18:=by kernel_rfl
  g19:=by kernel_rfl
  i0:=by kernel_rfl
  i2:=by kernel_rfl
  i3:=by kernel_rfl
  i4:=by kernel_rfl
  i5:=by kernel_rfl
  i9:=by kernel_rfl
  i20:=by kernel_rfl
  i37:=by kernel_rfl
  i46:=by kernel_rfl
  i51:=by kernel_rfl
  i53:=by kernel_rfl
  i171:=by kernel_rfl
  i173:=by kernel_rfl
  i212:=by kernel_rfl
  i232:=by kernel_rfl
  i233:=by kernel_rfl
  m17:=by kernel_rfl
  m18:=by kernel_rfl
  m19:=by kernel_rfl }
open Go.RowKit Go.Sort Go.Lib in
theorem Tryz.strconv_Itoa (n : Int) (h0 : -9223372036854775808 ≤ n) (h1 : n ≤ 9223372036854775807) (w : World) (htab : Lib.TabIs Tryz.prog w "internal/strconv.uint64pow10" .u64 Lib.pow10Tab) :
    Calls Tryz.prog 80 #[.int .i64 n] w fun e w'=>e=.returned (.string ⟨(Lib.itoa n).toArray⟩)∧∃ k os,w'=grow (w.drewN k) os:=Any.strconv_Itoa Tryz.laysM171 n h0 h1 w htab
def Tryz.laysM157_ren:Go.Shelf.Ren:=⟨fun | 157=>49 | 229=>82 | 199=>83 | 261=>119 | 311=>137 | 312=>138 | n=>n,fun | 9=>9 | 31=>92 | 3=>3 | 5=>5 | 4=>4 | 119=>126 | 0=>0 | 40=>128 | 152=>171 | 21=>21 | 154=>173 | 51=>174 | 141=>176 | 196=>192 | 193=>189 | 198=>195 | 49=>193 | 194=>190 | 201=>198 | 226=>209 | 46=>123 | 227=>210 | n=>n,fun | 0=>0 | 6=>1 | n=>n⟩
theorem Tryz.laysM157:Go.Proofs.LaysM.n157 Tryz.prog Tryz.laysM157_ren:={
  mixed:=by kernel_rfl
  f157:=Tryz.func49.trans (congrArg some (by kernel_rfl))
  f199:=Tryz.func83.trans (congrArg some (by kernel_rfl))
  f229:=Tryz.func82.trans (congrArg some (by kernel_rfl))
  f261:=Tryz.func119.trans (congrArg some (by kernel_rfl))
  f311:=Tryz.func137.trans (congrArg some (by kernel_rfl))
  f312:=Tryz.func138.trans (congrArg some (by kernel_rfl))
  t0:=Tryz.underlying0
  a0:=Tryz.isAgg0
  z0:=Tryz.sizeOf0
  v0:=Tryz.zeroValue0
  t3:=Tryz.underlying3
  a3:=Tryz.isAgg3
  z3:=Tryz.sizeOf3
  v3:=Tryz.zeroValue3
  t4:=Tryz.underlying4
  a4:=Tryz.isAgg4
  z4:=Tryz.sizeOf4
  v4:=Tryz.zeroValue4
  t5:=Tryz.underlying5
  a5:=Tryz.isAgg5
  z5:=Tryz.sizeOf5
  v5:=Tryz.zeroValue5
  t9:=Tryz.underlying9
  a9:=Tryz.isAgg9
  z9:=Tryz.sizeOf9
  v9:=Tryz.zeroValue9
  t21:=Tryz.underlying21
  a21:=Tryz.isAgg21
  z21:=Tryz.sizeOf21
  v21:=Tryz.zeroValue21
  t31:=Tryz.underlying92
  a31:=Tryz.isAgg92
  z31:=Tryz.sizeOf92
  v31:=Tryz.zeroValue92
  t40:=Tryz.underlying128
  a40:=Tryz.isAgg128
  z40:=Tryz.sizeOf128
  v40:=Tryz.zeroValue128
  t46:=Tryz.underlying123
  a46:=Tryz.isAgg123
  z46:=Tryz.sizeOf123
  v46:=Tryz.zeroValue123
  t49:=Tryz.underlying193
  a49:=Tryz.isAgg193
  z49:=Tryz.sizeOf193
  v49:=Tryz.zeroValue193
  t51:=Tryz.underlying174
  a51:=Tryz.isAgg174
  z51:=Tryz.sizeOf174
  v51:=Tryz.zeroValue174
  t119:=Tryz.underlying126
  a119:=Tryz.isAgg126
  z119:=Tryz.sizeOf126
  t141:=Tryz.underlying176
  a141:=Tryz.isAgg176
  z141:=Tryz.sizeOf176
  v141:=Tryz.zeroValue176
  t152:=Tryz.underlying171
  a152:=Tryz.isAgg171
  z152:=Tryz.sizeOf171
  v152:=Tryz.zeroValue171
  t154:=Tryz.underlying173
  a154:=Tryz.isAgg173
  z154:=Tryz.sizeOf173
  v154:=Tryz.zeroValue173
  t193:=Tryz.underlying189
  a193:=Tryz.isAgg189
  z193:=Tryz.sizeOf189
  v193:=Tryz.zeroValue189
  t194:=Tryz.underlying190
  a194:=Tryz.isAgg190
  z194:=Tryz.sizeOf190
  v194:=Tryz.zeroValue190
  t196:=Tryz.underlying192
  a196:=Tryz.isAgg192
  z196:=Tryz.sizeOf192
  v196:=Tryz.zeroValue192
  t198:=Tryz.underlying195
  a198:=Tryz.isAgg195
  z198:=Tryz.sizeOf195
  v198:=Tryz.zeroValue195
  t201:=Tryz.underlying198
  a201:=Tryz.isAgg198
  z201:=Tryz.sizeOf198
  v201:=Tryz.zeroValue198
  t226:=Tryz.underlying209
  a226:=Tryz.isAgg209
  z226:=Tryz.sizeOf209
  v226:=Tryz.zeroValue209
  t227:=Tryz.underlying210
  a227:=Tryz.isAgg210
  z227:=Tryz.sizeOf210
  v227:=Tryz.zeroValue210
  g0:=by kernel_rfl
  g6:=by kernel_rfl
  i0:=by kernel_rfl
  i3:=by kernel_rfl
  i4:=by kernel_rfl
  i5:=by kernel_rfl
  i9:=by kernel_rfl
  i21:=by kernel_rfl
  i31:=by kernel_rfl
  i40:=by kernel_rfl
  i46:=by kernel_rfl
  i49:=by kernel_rfl
  i51:=by kernel_rfl
  i141:=by kernel_rfl
  i152:=by kernel_rfl
  i154:=by kernel_rfl
  i193:=by kernel_rfl
  i194:=by kernel_rfl
  i196:=by kernel_rfl
  i198:=by kernel_rfl
  i201:=by kernel_rfl
  i226:=by kernel_rfl
  i227:=by kernel_rfl
  m0:=by kernel_rfl
  m6:=by kernel_rfl }
open Go.RowKit Go.Lib in
theorem Tryz.strings_Fields_laid (s : ByteArray) (w : World) (hs : s.size < 4294967281) (hascii : ∀ (j : Nat) b, s.data.toList[j]? = some b → b.toNat < 128) (htab : Lib.TabIs Tryz.prog w "strings.asciiSpace" .u8 Lib.asciiSpaceTab) :
    Calls Tryz.prog 49 #[.string s] w fun e w'=>
      e=.returned (.slice (some ⟨w.heap.size,0,none⟩) (Lib.fields s.data.toList).length (Lib.fields s.data.toList).length)∧w'=w.alloc (.cells ((Lib.fields s.data.toList).map fun l=>Value.string ⟨l.toArray⟩).toArray 9):=Any.strings_Fields_laid Tryz.laysM157 s w hs hascii htab
end Go.Proofs
