/- What binary.Show writes; BinaryLines. No condition: plain lemmas. -/
import Derived.Test.YtbblmeecfimnkaaGreatDoorBMA
import Derived.Test.YtbblmeecfimnkaaGreatDoorBMK
namespace Go.MD.BINZ
open Go Go.MD
theorem digN {u:Nat} (h:u < 10):(UInt8.ofNat (48+u)).toNat=48+u:=by rw [UInt8.toNat_ofNat'];exact Nat.mod_eq_of_lt (by omega)
theorem dec_mem {u:Nat}:∀ c∈Lib.decDigits u,48≤c.toNat:=by
  induction u using Nat.strongRecOn with
  | _ u ih =>
    by_cases h:u < 10
    · rw [Lib.decDigits_one h]
      intro c hc
      simp only [List.mem_singleton] at hc
      subst hc
      rw [digN h];omega
    · rw [Lib.decDigits, dif_neg h]
      intro c hc
      rcases List.mem_append.1 hc with hc | hc
      · exact ih (u / 10) (by omega) c hc
      · simp only [List.mem_singleton] at hc
        subst hc
        rw [digN (by omega)];omega
def NoL (s:Str):Prop:=∀ c∈s,c≠10
theorem NoL.app {a b:Str} (ha:NoL a) (hb:NoL b):NoL (a ++ b):=fun c hc=>by
  rcases List.mem_append.1 hc with h | h
  · exact ha c h
  · exact hb c h
theorem NoL.itoa (n:Int):NoL (Lib.itoa n):=by
  intro c hc e
  subst e
  unfold Lib.itoa at hc
  split at hc
  · rcases List.mem_cons.1 hc with h | h
    · exact absurd h (by decide)
    · exact absurd (dec_mem _ h) (by decide)
  · exact absurd (dec_mem _ hc) (by decide)
end Go.MD.BINZ
