/- Contracts of the library at this dump, off the shelf. No condition beyond their own premises. -/
import Derived.Shelf.Strings.Builder1
import Derived.Shelf.Strings.Builder2
import Derived.Shelf.Strings.OnBuilder
import Derived.Shelf.Strconv.Itoa0
import Derived.Shelf.Strconv.Itoa1
import Derived.Shelf.LaysM
import Derived.Shelf.Strconv.Itoa2
import Derived.Shelf.Strconv.Itoa3
import Derived.Shelf.Strings.Fields
import Derived.Shelf.Strings.SplitShaped
import Derived.Shelf.Unicode.Latin
import Derived.Shelf.Unicode.Is16White
import Derived.Shelf.Unicode.IsSpaceAny
import Derived.Shelf.Unicode.Is16Any
import Derived.Shelf.Unicode.Is32Any
import Derived.Shelf.Unicode.ExclAny
import Derived.Test.YtbblmeecfimnkaaDoorProg
namespace Go.Proofs
open Go.Shelf
def Tryd.lays169_ren:Go.Shelf.Ren:=⟨fun | 169=>14 | n=>n,fun | 70=>36 | 9=>9 | 0=>0 | 72=>39 | 37=>37 | 127=>62 | 3=>3 | 5=>5 | n=>n,fun | n=>n⟩
theorem Tryd.lays169:Go.Proofs.Lays.n169 Tryd.prog Tryd.lays169_ren:={
  mixed:=by kernel_rfl
  f169:=Tryd.func14.trans (congrArg some (by kernel_rfl))
  t0:=Tryd.underlying0
  a0:=Tryd.isAgg0
  z0:=Tryd.sizeOf0
  v0:=Tryd.zeroValue0
  t3:=Tryd.underlying3
  a3:=Tryd.isAgg3
  z3:=Tryd.sizeOf3
  v3:=Tryd.zeroValue3
  t9:=Tryd.underlying9
  a9:=Tryd.isAgg9
  z9:=Tryd.sizeOf9
  v9:=Tryd.zeroValue9
  t37:=Tryd.underlying37
  a37:=Tryd.isAgg37
  z37:=Tryd.sizeOf37
  v37:=Tryd.zeroValue37
  t70:=Tryd.underlying36
  a70:=Tryd.isAgg36
  z70:=Tryd.sizeOf36
  v70:=Tryd.zeroValue36
  t72:=Tryd.underlying39
  a72:=Tryd.isAgg39
  z72:=Tryd.sizeOf39
  v72:=Tryd.zeroValue39
  t127:=Tryd.underlying62
  a127:=Tryd.isAgg62
  z127:=Tryd.sizeOf62
  v127:=Tryd.zeroValue62 }
theorem Tryd.Builder_Extra_169:Builder.Extra Tryd.prog Tryd.lays169_ren:={
  sizeBuilder:=by kernel_rfl
  liesBuilder:=by kernel_rfl
  t5:=Tryd.underlying5
  a5:=Tryd.isAgg5
  z5:=Tryd.sizeOf5
  v5:=Tryd.zeroValue5
  infoByte:=by kernel_rfl
  cellsByte:=by kernel_rfl
  sizeByte:=by kernel_rfl
  neB5:=by decide }
open Go.RowKit in
theorem Tryd.Builder_String_any (B b:Nat) (l:List UInt8) (w:World) (h:Lib.IsBuilder 39 5 B b (Lib.byteCells l) w) (hBw:B≤w.heap.size) :
    Calls Tryd.prog 14 #[.pointer (some ⟨b,0,none⟩)] w fun e w'=>e=.returned (.string ⟨l.toArray⟩)∧Below B w w':=Any.Builder_String_any Tryd.lays169 Tryd.Builder_Extra_169 B b l w h hBw
def Tryd.lays156_ren:Go.Shelf.Ren:=⟨fun | 156=>40 | 165=>62 | 166=>20 | 169=>14 | 240=>23 | 241=>81 | 276=>41 | 277=>94 | n=>n,fun | 31=>78 | 9=>9 | 3=>3 | 4=>4 | 0=>0 | 20=>20 | 72=>39 | 76=>59 | 70=>36 | 37=>37 | 75=>42 | 127=>62 | 164=>81 | 5=>5 | 80=>44 | n=>n,fun | n=>n⟩
theorem Tryd.lays156:Go.Proofs.Lays.n156 Tryd.prog Tryd.lays156_ren:={
  mixed:=by kernel_rfl
  f156:=Tryd.func40.trans (congrArg some (by kernel_rfl))
  f165:=Tryd.func62.trans (congrArg some (by kernel_rfl))
  f166:=Tryd.func20.trans (congrArg some (by kernel_rfl))
  f169:=Tryd.func14.trans (congrArg some (by kernel_rfl))
  f240:=Tryd.func23.trans (congrArg some (by kernel_rfl))
  f241:=Tryd.func81.trans (congrArg some (by kernel_rfl))
  f276:=Tryd.func41.trans (congrArg some (by kernel_rfl))
  f277:=Tryd.func94.trans (congrArg some (by kernel_rfl))
  t0:=Tryd.underlying0
  a0:=Tryd.isAgg0
  z0:=Tryd.sizeOf0
  v0:=Tryd.zeroValue0
  t3:=Tryd.underlying3
  a3:=Tryd.isAgg3
  z3:=Tryd.sizeOf3
  v3:=Tryd.zeroValue3
  t4:=Tryd.underlying4
  a4:=Tryd.isAgg4
  z4:=Tryd.sizeOf4
  v4:=Tryd.zeroValue4
  t9:=Tryd.underlying9
  a9:=Tryd.isAgg9
  z9:=Tryd.sizeOf9
  v9:=Tryd.zeroValue9
  t20:=Tryd.underlying20
  a20:=Tryd.isAgg20
  z20:=Tryd.sizeOf20
  v20:=Tryd.zeroValue20
  t31:=Tryd.underlying78
  a31:=Tryd.isAgg78
  z31:=Tryd.sizeOf78
  v31:=Tryd.zeroValue78
  t37:=Tryd.underlying37
  a37:=Tryd.isAgg37
  z37:=Tryd.sizeOf37
  v37:=Tryd.zeroValue37
  t70:=Tryd.underlying36
  a70:=Tryd.isAgg36
  z70:=Tryd.sizeOf36
  v70:=Tryd.zeroValue36
  t72:=Tryd.underlying39
  a72:=Tryd.isAgg39
  z72:=Tryd.sizeOf39
  v72:=Tryd.zeroValue39
  t75:=Tryd.underlying42
  a75:=Tryd.isAgg42
  z75:=Tryd.sizeOf42
  v75:=Tryd.zeroValue42
  t76:=Tryd.underlying59
  a76:=Tryd.isAgg59
  z76:=Tryd.sizeOf59
  v76:=Tryd.zeroValue59
  t127:=Tryd.underlying62
  a127:=Tryd.isAgg62
  z127:=Tryd.sizeOf62
  v127:=Tryd.zeroValue62
  t164:=Tryd.underlying81
  a164:=Tryd.isAgg81
  z164:=Tryd.sizeOf81
  v164:=Tryd.zeroValue81 }
theorem Tryd.Builder_Extra_156:Builder.Extra Tryd.prog Tryd.lays156_ren:={
  sizeBuilder:=by kernel_rfl
  liesBuilder:=by kernel_rfl
  t5:=Tryd.underlying5
  a5:=Tryd.isAgg5
  z5:=Tryd.sizeOf5
  v5:=Tryd.zeroValue5
  infoByte:=by kernel_rfl
  cellsByte:=by kernel_rfl
  sizeByte:=by kernel_rfl
  neB5:=by decide }
open Go.RowKit in
theorem Tryd.strings_Join_none (a:Option Addr) (c:Nat) (sep:ByteArray) (w:World) :
    Calls Tryd.prog 40 #[.slice a 0 c,.string sep] w fun e w'=>e=.returned (.string ⟨#[]⟩)∧w'=w:=Any.strings_Join_none Tryd.lays156 Tryd.Builder_Extra_156 a c sep w
open Go.RowKit in
theorem Tryd.strings_Join (bk o c:Nat) (xs:List ByteArray) (sep:ByteArray) (w:World) (hcells:∀ (j:Nat) x,xs[j]? = some x→w.cell? ⟨bk,o+j,none⟩=some (.string x)) (hbk:bk < w.heap.size) (hN:xs.length≤140737488355328) (hcap:xs.length≤c) (hlen:(Lib.join (xs.map (·.data.toList)) sep.data.toList).length≤140737488355328) :
    Calls Tryd.prog 40 #[.slice (some ⟨bk,o,none⟩) xs.length c,.string sep] w fun e w'=>e=.returned (.string ⟨(Lib.join (xs.map (·.data.toList)) sep.data.toList).toArray⟩)∧Below w.heap.size w w':=Any.strings_Join Tryd.lays156 Tryd.Builder_Extra_156 bk o c xs sep w hcells hbk hN hcap hlen
def Tryd.laysM171_ren:Go.Shelf.Ren:=⟨fun | 171=>39 | 243=>61 | 246=>80 | 283=>90 | 284=>91 | 285=>92 | 286=>93 | 129=>97 | 317=>96 | 318=>98 | 319=>99 | 320=>100 | 337=>101 | 338=>102 | n=>n,fun | 3=>3 | 9=>9 | 2=>2 | 4=>4 | 171=>142 | 0=>0 | 53=>143 | 37=>37 | 5=>5 | 173=>146 | 212=>153 | 51=>121 | 20=>20 | 213=>154 | 46=>40 | 232=>157 | 233=>158 | n=>n,fun | 17=>2 | 18=>4 | 19=>5 | n=>n⟩
theorem Tryd.laysM171:Go.Proofs.LaysM.n171 Tryd.prog Tryd.laysM171_ren:={
  mixed:=by kernel_rfl
  f129:=Tryd.func97.trans (congrArg some (by kernel_rfl))
  f171:=Tryd.func39.trans (congrArg some (by kernel_rfl))
  f243:=Tryd.func61.trans (congrArg some (by kernel_rfl))
  f246:=Tryd.func80.trans (congrArg some (by kernel_rfl))
  f283:=Tryd.func90.trans (congrArg some (by kernel_rfl))
  f284:=Tryd.func91.trans (congrArg some (by kernel_rfl))
  f285:=Tryd.func92.trans (congrArg some (by kernel_rfl))
  f286:=Tryd.func93.trans (congrArg some (by kernel_rfl))
  f317:=Tryd.func96.trans (congrArg some (by kernel_rfl))
  f318:=Tryd.func98.trans (congrArg some (by kernel_rfl))
  f319:=Tryd.func99.trans (congrArg some (by kernel_rfl))
  f320:=Tryd.func100.trans (congrArg some (by kernel_rfl))
  f337:=Tryd.func101.trans (congrArg some (by kernel_rfl))
  f338:=Tryd.func102.trans (congrArg some (by kernel_rfl))
  t0:=Tryd.underlying0
  a0:=Tryd.isAgg0
  z0:=Tryd.sizeOf0
  v0:=Tryd.zeroValue0
  t2:=Tryd.underlying2
  a2:=Tryd.isAgg2
  z2:=Tryd.sizeOf2
  v2:=Tryd.zeroValue2
  t3:=Tryd.underlying3
  a3:=Tryd.isAgg3
  z3:=Tryd.sizeOf3
  v3:=Tryd.zeroValue3
  t4:=Tryd.underlying4
  a4:=Tryd.isAgg4
  z4:=Tryd.sizeOf4
  v4:=Tryd.zeroValue4
  t5:=Tryd.underlying5
  a5:=Tryd.isAgg5
  z5:=Tryd.sizeOf5
  v5:=Tryd.zeroValue5
  t9:=Tryd.underlying9
  a9:=Tryd.isAgg9
  z9:=Tryd.sizeOf9
  v9:=Tryd.zeroValue9
  t20:=Tryd.underlying20
  a20:=Tryd.isAgg20
  z20:=Tryd.sizeOf20
  v20:=Tryd.zeroValue20
  t37:=Tryd.underlying37
  a37:=Tryd.isAgg37
  z37:=Tryd.sizeOf37
  v37:=Tryd.zeroValue37
  t46:=Tryd.underlying40
  a46:=Tryd.isAgg40
  z46:=Tryd.sizeOf40
  v46:=Tryd.zeroValue40
  t51:=Tryd.underlying121
  a51:=Tryd.isAgg121
  z51:=Tryd.sizeOf121
  v51:=Tryd.zeroValue121
  t53:=Tryd.underlying143
  a53:=Tryd.isAgg143
  z53:=Tryd.sizeOf143
  v53:=Tryd.zeroValue143
  t171:=Tryd.underlying142
  a171:=Tryd.isAgg142
  z171:=Tryd.sizeOf142
  v171:=Tryd.zeroValue142
  t173:=Tryd.underlying146
  a173:=Tryd.isAgg146
  z173:=Tryd.sizeOf146
  v173:=Tryd.zeroValue146
  t212:=Tryd.underlying153
  a212:=Tryd.isAgg153
  z212:=Tryd.sizeOf153
  v212:=Tryd.zeroValue153
  t213:=Tryd.underlying154
  a213:=Tryd.isAgg154
  z213:=Tryd.sizeOf154
  t232:=Tryd.underlying157
  a232:=Tryd.isAgg157
  z232:=Tryd.sizeOf157
  v232:=Tryd.zeroValue157
  t233:=Tryd.underlying158
  a233:=Tryd.isAgg158
  z233:=Tryd.sizeOf158
  v233:=Tryd.zeroValue158
  g17:=by kernel_rfl
  g18:=by kernel_rfl
  g19:=by kernel_rfl
  i0:=by kernel_rfl
  i2:=by kernel_rfl
  i3:=by kernel_rfl
  i4:=by kernel_rfl
  i5:=by kernel_rfl
  i9:=by kernel_rfl
  i20:=by kernel_rfl
  i37:=by kernel_rfl
  i46:=by kernel_rfl
  i51:=by kernel_rfl
  i53:=by kernel_rfl
  i171:=by kernel_rfl
  i173:=by kernel_rfl
  i212:=by kernel_rfl
  i232:=by kernel_rfl
  i233:=by kernel_rfl
  m17:=by kernel_rfl
  m18:=by kernel_rfl
  m19:=by kernel_rfl }
open Go.RowKit Go.Sort Go.Lib in
theorem Tryd.strconv_Itoa (n : Int) (h0 : -9223372036854775808 ≤ n) (h1 : n ≤ 9223372036854775807) (w : World) (htab : Lib.TabIs Tryd.prog w "internal/strconv.uint64pow10" .u64 Lib.pow10Tab) :
    Calls Tryd.prog 39 #[.int .i64 n] w fun e w'=>e=.returned (.string ⟨(Lib.itoa n).toArray⟩)∧∃ k os,w'=grow (w.drewN k) os:=Any.strconv_Itoa Tryd.laysM171 n h0 h1 w htab
def Tryd.laysM157_ren:Go.Shelf.Ren:=⟨fun | 157=>38 | 229=>59 | 199=>60 | 261=>79 | 311=>88 | 312=>89 | n=>n,fun | 9=>9 | 31=>78 | 3=>3 | 5=>5 | 4=>4 | 119=>96 | 0=>0 | 40=>98 | 152=>118 | 21=>21 | 154=>120 | 51=>121 | 141=>123 | 196=>134 | 193=>131 | 198=>137 | 49=>135 | 194=>132 | 201=>140 | 226=>150 | 46=>40 | 227=>151 | n=>n,fun | 0=>0 | 6=>1 | n=>n⟩
theorem Tryd.laysM157:Go.Proofs.LaysM.n157 Tryd.prog Tryd.laysM157_ren:={
  mixed:=by kernel_rfl
  f157:=Tryd.func38.trans (congrArg some (by kernel_rfl))
  f199:=Tryd.func60.trans (congrArg some (by kernel_rfl))
  f229:=Tryd.func59.trans (congrArg some (by kernel_rfl))
  f261:=Tryd.func79.trans (congrArg some (by kernel_rfl))
  f311:=Tryd.func88.trans (congrArg some (by kernel_rfl))
  f312:=Tryd.func89.trans (congrArg some (by kernel_rfl))
  t0:=Tryd.underlying0
  a0:=Tryd.isAgg0
  z0:=Tryd.sizeOf0
  v0:=Tryd.zeroValue0
  t3:=Tryd.underlying3
  a3:=Tryd.isAgg3
  z3:=Tryd.sizeOf3
  v3:=Tryd.zeroValue3
  t4:=Tryd.underlying4
  a4:=Tryd.isAgg4
  z4:=Tryd.sizeOf4
  v4:=Tryd.zeroValue4
  t5:=Tryd.underlying5
  a5:=Tryd.isAgg5
  z5:=Tryd.sizeOf5
  v5:=Tryd.zeroValue5
  t9:=Tryd.underlying9
  a9:=Tryd.isAgg9
  z9:=Tryd.sizeOf9
  v9:=Tryd.zeroValue9
  t21:=Tryd.underlying21
  a21:=Tryd.isAgg21
  z21:=Tryd.sizeOf21
  v21:=Tryd.zeroValue21
  t31:=Tryd.underlying78
  a31:=Tryd.isAgg78
  z31:=Tryd.sizeOf78
  v31:=Tryd.zeroValue78
  t40:=Tryd.underlying98
  a40:=Tryd.isAgg98
  z40:=Tryd.sizeOf98
  v40:=Tryd.zeroValue98
  t46:=Tryd.underlying40
  a46:=Tryd.isAgg40
  z46:=Tryd.sizeOf40
  v46:=Tryd.zeroValue40
  t49:=Tryd.underlying135
  a49:=Tryd.isAgg135
  z49:=Tryd.sizeOf135
  v49:=Tryd.zeroValue135
  t51:=Tryd.underlying121
  a51:=Tryd.isAgg121
  z51:=Tryd.sizeOf121
  v51:=Tryd.zeroValue121
  t119:=Tryd.underlying96
  a119:=Tryd.isAgg96
  z119:=Tryd.sizeOf96
  t141:=Tryd.underlying123
  a141:=Tryd.isAgg123
  z141:=Tryd.sizeOf123
  v141:=Tryd.zeroValue123
  t152:=Tryd.underlying118
  a152:=Tryd.isAgg118
  z152:=Tryd.sizeOf118
  v152:=Tryd.zeroValue118
  t154:=Tryd.underlying120
  a154:=Tryd.isAgg120
  z154:=Tryd.sizeOf120
  v154:=Tryd.zeroValue120
  t193:=Tryd.underlying131
  a193:=Tryd.isAgg131
  z193:=Tryd.sizeOf131
  v193:=Tryd.zeroValue131
  t194:=Tryd.underlying132
  a194:=Tryd.isAgg132
  z194:=Tryd.sizeOf132
  v194:=Tryd.zeroValue132
  t196:=Tryd.underlying134
  a196:=Tryd.isAgg134
  z196:=Tryd.sizeOf134
  v196:=Tryd.zeroValue134
  t198:=Tryd.underlying137
  a198:=Tryd.isAgg137
  z198:=Tryd.sizeOf137
  v198:=Tryd.zeroValue137
  t201:=Tryd.underlying140
  a201:=Tryd.isAgg140
  z201:=Tryd.sizeOf140
  v201:=Tryd.zeroValue140
  t226:=Tryd.underlying150
  a226:=Tryd.isAgg150
  z226:=Tryd.sizeOf150
  v226:=Tryd.zeroValue150
  t227:=Tryd.underlying151
  a227:=Tryd.isAgg151
  z227:=Tryd.sizeOf151
  v227:=Tryd.zeroValue151
  g0:=by kernel_rfl
  g6:=by kernel_rfl
  i0:=by kernel_rfl
  i3:=by kernel_rfl
  i4:=by kernel_rfl
  i5:=by kernel_rfl
  i9:=by kernel_rfl
  i21:=by kernel_rfl
  i31:=by kernel_rfl
  i40:=by kernel_rfl
  i46:=by kernel_rfl
  i49:=by kernel_rfl
  i51:=by kernel_rfl
  i141:=by kernel_rfl
  i152:=by kernel_rfl
  i154:=by kernel_rfl
  i193:=by kernel_rfl
  i194:=by kernel_rfl
  i196:=by kernel_rfl
  i198:=by kernel_rfl
  i201:=by kernel_rfl
  i226:=by kernel_rfl
  i227:=by kernel_rfl
  m0:=by kernel_rfl
  m6:=by kernel_rfl }
open Go.RowKit Go.Lib in
theorem Tryd.strings_Fields_laid (s : ByteArray) (w : World) (hs : s.size < 4294967281) (hascii : ∀ (j : Nat) b, s.data.toList[j]? = some b → b.toNat < 128) (htab : Lib.TabIs Tryd.prog w "strings.asciiSpace" .u8 Lib.asciiSpaceTab) :
    Calls Tryd.prog 38 #[.string s] w fun e w'=>
      e=.returned (.slice (some ⟨w.heap.size,0,none⟩) (Lib.fields s.data.toList).length (Lib.fields s.data.toList).length)∧w'=w.alloc (.cells ((Lib.fields s.data.toList).map fun l=>Value.string ⟨l.toArray⟩).toArray 9):=Any.strings_Fields_laid Tryd.laysM157 s w hs hascii htab
end Go.Proofs
