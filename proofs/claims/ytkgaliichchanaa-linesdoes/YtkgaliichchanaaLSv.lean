/- A script's calls, as they lie in memory. No condition: plain lemmas. -/
import Derived.Test.YtkgaliichchanaaLN9
namespace Go.LL
open Go Go.Proofs
structure OpV where
  kind : Int
  cell : Int
  n : Int
  oa : Option Addr
  cap : Nat
  xs : List Int
def opcell (o : OpV) : List Value := [.int .i64 o.kind, .int .i64 o.cell, .int .i64 o.n, .slice o.oa o.xs.length o.cap]
def opcells (l : List OpV) : List Value := l.flatMap opcell
theorem opcell_len (x : OpV) : (opcell x).length = 4 := rfl
theorem opcells_len (l : List OpV) : (opcells l).length = l.length * 4 := flat_len opcell_len l
theorem opcells_ne {l : List OpV} (h : 0 < l.length) : opcells l ≠ [] := flat_ne opcell_len (by omega) h
theorem opcells_sub {l : List OpV} {k : Nat} (h : k < l.length) : ∀ (j : Nat) (v : Value), (opcell l[k])[j]? = some v → (opcells l)[k * 4 + j]? = some v := flat_sub opcell_len h
end Go.LL

