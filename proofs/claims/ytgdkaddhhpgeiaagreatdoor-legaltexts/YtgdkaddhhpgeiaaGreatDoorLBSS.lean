/- Contracts of the library at this dump, off the shelf. No condition beyond their own premises. -/
import Derived.Shelf.Utf8.RuneCount
import Derived.Shelf.Strings.Search1
import Derived.Shelf.Strings.Search2
import Derived.Shelf.Strings.Search3
import Derived.Shelf.Strings.Count
import Derived.Shelf.LaysM
import Derived.Shelf.Strings.Shaped
import Derived.Shelf.Strings.Split
import Derived.Shelf.Strings.SplitShaped
import Derived.Shelf.Unicode.Decode
import Derived.Shelf.Strings.RuneCount
import Derived.Shelf.Strings.Explode
import Derived.Shelf.Unicode.DecodeSlow
import Derived.Shelf.Unicode.DecodeAny
import Derived.Shelf.Slices.Turned
import Derived.Test.YtgdkaddhhpgeiaaGreatDoorProg
namespace Go.Proofs
open Go.Shelf
def Tryz.lays144_ren:Go.Shelf.Ren:=⟨fun | 144=>147 | 143=>164 | 219=>173 | 217=>179 | 225=>180 | 224=>181 | 267=>182 | 266=>185 | 314=>186 | n=>n,fun | 9=>9 | 4=>4 | 3=>3 | 5=>5 | 46=>192 | 146=>195 | 51=>194 | n=>n,fun | 1=>0 | n=>n⟩
theorem Tryz.lays144:Go.Proofs.Lays.n144 Tryz.prog Tryz.lays144_ren:={
  mixed:=by kernel_rfl
  f143:=Tryz.func164.trans (congrArg some (by kernel_rfl))
  f144:=Tryz.func147.trans (congrArg some (by kernel_rfl))
  f217:=Tryz.func179.trans (congrArg some (by kernel_rfl))
  f219:=Tryz.func173.trans (congrArg some (by kernel_rfl))
  f224:=Tryz.func181.trans (congrArg some (by kernel_rfl))
  f225:=Tryz.func180.trans (congrArg some (by kernel_rfl))
  f266:=Tryz.func185.trans (congrArg some (by kernel_rfl))
  f267:=Tryz.func182.trans (congrArg some (by kernel_rfl))
  f314:=Tryz.func186.trans (congrArg some (by kernel_rfl))
  t3:=Tryz.underlying3
  a3:=Tryz.isAgg3
  z3:=Tryz.sizeOf3
  v3:=Tryz.zeroValue3
  t4:=Tryz.underlying4
  a4:=Tryz.isAgg4
  z4:=Tryz.sizeOf4
  v4:=Tryz.zeroValue4
  t5:=Tryz.underlying5
  a5:=Tryz.isAgg5
  z5:=Tryz.sizeOf5
  v5:=Tryz.zeroValue5
  t9:=Tryz.underlying9
  a9:=Tryz.isAgg9
  z9:=Tryz.sizeOf9
  v9:=Tryz.zeroValue9
  t46:=Tryz.underlying192
  a46:=Tryz.isAgg192
  z46:=Tryz.sizeOf192
  v46:=Tryz.zeroValue192
  t51:=Tryz.underlying194
  a51:=Tryz.isAgg194
  z51:=Tryz.sizeOf194
  v51:=Tryz.zeroValue194
  t146:=Tryz.underlying195
  a146:=Tryz.isAgg195
  z146:=Tryz.sizeOf195
  v146:=Tryz.zeroValue195
  g1:=by kernel_rfl }
open Go.RowKit Go.Lib in
theorem Tryz.strings_Contains (s sub:ByteArray) (m:Int) (w:World) (hs:s.size < 4294967281) (hm:w.cell? ⟨0,0,none⟩=some (.int .i64 m)) :
    Calls Tryz.prog 147 #[.string s,.string sub] w fun e w'=>e=.returned (.bool (Lib.contains s.data.toList sub.data.toList))∧w'=w:=Any.strings_Contains Tryz.lays144 s sub m w hs hm
def Tryz.lays146_ren:Go.Shelf.Ren:=⟨fun | 146=>165 | 221=>174 | 268=>183 | 138=>184 | 143=>164 | 195=>187 | 197=>188 | 218=>189 | 219=>173 | 260=>190 | 217=>179 | 225=>180 | 224=>181 | 267=>182 | 266=>185 | 314=>186 | n=>n,fun | 9=>9 | 31=>36 | 3=>3 | 4=>4 | 0=>0 | 105=>198 | 21=>21 | 5=>5 | 46=>192 | 119=>200 | 139=>203 | 138=>202 | 146=>195 | 51=>194 | n=>n,fun | 1=>0 | 3=>1 | 4=>2 | n=>n⟩
theorem Tryz.lays146:Go.Proofs.Lays.n146 Tryz.prog Tryz.lays146_ren:={
  mixed:=by kernel_rfl
  f138:=Tryz.func184.trans (congrArg some (by kernel_rfl))
  f143:=Tryz.func164.trans (congrArg some (by kernel_rfl))
  f146:=Tryz.func165.trans (congrArg some (by kernel_rfl))
  f195:=Tryz.func187.trans (congrArg some (by kernel_rfl))
  f197:=Tryz.func188.trans (congrArg some (by kernel_rfl))
  f217:=Tryz.func179.trans (congrArg some (by kernel_rfl))
  f218:=Tryz.func189.trans (congrArg some (by kernel_rfl))
  f219:=Tryz.func173.trans (congrArg some (by kernel_rfl))
  f221:=Tryz.func174.trans (congrArg some (by kernel_rfl))
  f224:=Tryz.func181.trans (congrArg some (by kernel_rfl))
  f225:=Tryz.func180.trans (congrArg some (by kernel_rfl))
  f260:=Tryz.func190.trans (congrArg some (by kernel_rfl))
  f266:=Tryz.func185.trans (congrArg some (by kernel_rfl))
  f267:=Tryz.func182.trans (congrArg some (by kernel_rfl))
  f268:=Tryz.func183.trans (congrArg some (by kernel_rfl))
  f314:=Tryz.func186.trans (congrArg some (by kernel_rfl))
  t0:=Tryz.underlying0
  a0:=Tryz.isAgg0
  z0:=Tryz.sizeOf0
  v0:=Tryz.zeroValue0
  t3:=Tryz.underlying3
  a3:=Tryz.isAgg3
  z3:=Tryz.sizeOf3
  v3:=Tryz.zeroValue3
  t4:=Tryz.underlying4
  a4:=Tryz.isAgg4
  z4:=Tryz.sizeOf4
  v4:=Tryz.zeroValue4
  t5:=Tryz.underlying5
  a5:=Tryz.isAgg5
  z5:=Tryz.sizeOf5
  v5:=Tryz.zeroValue5
  t9:=Tryz.underlying9
  a9:=Tryz.isAgg9
  z9:=Tryz.sizeOf9
  v9:=Tryz.zeroValue9
  t21:=Tryz.underlying21
  a21:=Tryz.isAgg21
  z21:=Tryz.sizeOf21
  v21:=Tryz.zeroValue21
  t31:=Tryz.underlying36
  a31:=Tryz.isAgg36
  z31:=Tryz.sizeOf36
  v31:=Tryz.zeroValue36
  t46:=Tryz.underlying192
  a46:=Tryz.isAgg192
  z46:=Tryz.sizeOf192
  v46:=Tryz.zeroValue192
  t51:=Tryz.underlying194
  a51:=Tryz.isAgg194
  z51:=Tryz.sizeOf194
  v51:=Tryz.zeroValue194
  t105:=Tryz.underlying198
  a105:=Tryz.isAgg198
  z105:=Tryz.sizeOf198
  v105:=Tryz.zeroValue198
  t119:=Tryz.underlying200
  a119:=Tryz.isAgg200
  z119:=Tryz.sizeOf200
  t138:=Tryz.underlying202
  a138:=Tryz.isAgg202
  z138:=Tryz.sizeOf202
  v138:=Tryz.zeroValue202
  t139:=Tryz.underlying203
  a139:=Tryz.isAgg203
  z139:=Tryz.sizeOf203
  v139:=Tryz.zeroValue203
  t146:=Tryz.underlying195
  a146:=Tryz.isAgg195
  z146:=Tryz.sizeOf195
  v146:=Tryz.zeroValue195
  g1:=by kernel_rfl
  g3:=by kernel_rfl
  g4:=by kernel_rfl }
open Go.RowKit Go.Lib in
theorem Tryz.strings_Split (s sep:ByteArray) (m:Int) (w:World) (hs:s.size < 4294967281) (hm:w.cell? ⟨0,0,none⟩=some (.int .i64 m)) (h1:1≤sep.size) :
    Calls Tryz.prog 165 #[.string s,.string sep] w fun e w'=>
      e=.returned (.slice (some ⟨w.heap.size,0,none⟩) (Lib.countB s sep+1) (Lib.countB s sep+1))∧w'=w.alloc (.cells ((Lib.splitB sep 0 (Lib.countB s sep) s).map Value.string).toArray 9):=Any.strings_Split Tryz.lays146 (by kernel_rfl) s sep m w hs hm h1
end Go.Proofs
