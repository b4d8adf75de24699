/- What R10.Show writes; BinaryShows. No condition: plain lemmas. -/
import Derived.Test.YtbblmeecfimnkaaGreatDoorBMV
namespace Go.MD.BINZ
open Go Go.MD
theorem Jct {α:Type} (xs:List α) {n:Nat}:Dc xs 0 (min (xs.length:Int) (n:Int))=some (xs.take n):=by
  rw [Ef (by omega) (by omega) (by omega)]
  have:(min (xs.length:Int) (n:Int)).toNat=min xs.length n:=by omega
  rw [this,show (0:Int).toNat=0 from rfl,List.drop_zero,Nat.min_comm]
  congr 1
  rcases Nat.le_total n xs.length with h | h
  · rw [Nat.min_eq_left h]
  · rw [Nat.min_eq_right h,List.take_of_length_le (Nat.le_refl _),List.take_of_length_le h]
end Go.MD.BINZ
