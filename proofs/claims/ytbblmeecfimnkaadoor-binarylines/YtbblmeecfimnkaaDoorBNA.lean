/- Numbers as bytes, both; BinaryNumbers. No condition: plain lemmas. -/
import Derived.Test.YtbblmeecfimnkaaDoorBNF
namespace Go.MD.BIN
open Go Go.MD
theorem u8w {n:Int} (h1:0≤n) (h2:n≤255):IntKind.u8.wrap n=n:=by
  unfold IntKind.wrap
  simp only [IntKind.bits,IntKind.signed]
  simp
  omega
theorem byteI_at {s:Str} {i:Nat} (h:i < s.length):byteI s (i:Int)=some ((s[i]'h).toNat:Int):=by
  unfold byteI;rw [getI_at rfl h];rfl
end Go.MD.BIN
