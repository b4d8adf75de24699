/- Plain tools on lifted functions. No condition: plain lemmas. -/
import Derived.Test.YtgdkaddhhpgeiaaGreatDoorMD
namespace Go.MD
open Go
theorem w64 {n:Int} (h1 : -9223372036854775808≤n) (h2:n≤9223372036854775807):IntKind.i64.wrap n=n:=IntWalk.i64_in n ⟨h1,h2⟩
theorem Of {α:Type} (xs:List α) (j:Nat):getI xs (j:Int)=xs[j]?:=by simp [getI]
theorem Ao {α:Type} {xs:List α} {i:Int} {j:Nat} (h:i=(j:Int)) (hj:j < xs.length):getI xs i=some xs[j]:=by
  subst h;rw [Of];simp [hj]
theorem Bc {j n:Nat} (hj:j < n) (hn:n≤4611686018427387904):IntKind.i64.wrap ((j:Int)+1)=((j+1:Nat):Int):=by
  rw [w64 (by omega) (by omega)];omega
theorem Bq {α:Type} {b:Nat} {xs ys:List α} (h:xs.length+ys.length≤1000000) (hb:b≤1000):Df b xs ys=some (xs ++ ys):=by
  unfold Df
  have h1:(xs.length+ys.length) * b≤1000000 * 1000:=Nat.mul_le_mul h hb
  rw [if_pos ⟨Nat.le_trans h1 (by decide),by omega⟩]
theorem Iw {α:Type} {xs:List α} {lo hi:Int} (h1:0≤lo) (h2:lo≤hi) (h3:hi≤(xs.length:Int)):Et xs lo hi=some ((xs.take hi.toNat).drop lo.toNat):=by
  unfold Et;rw [if_pos ⟨h1,h2,h3⟩]
end Go.MD
