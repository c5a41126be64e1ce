/- The string of a number, as the reference prints it. Conditions: none. -/
import Derived.Test.YtolapannkcdeeaaGreatDoorAmShf
import Derived.WalkKit
import Derived.WalkSpells
import Derived.WalkLawsBesides
namespace Go.Proofs.YtolapannkcdeeaaGreatDoor.AM
set_option linter.unusedSimpArgs false
set_option linter.unusedVariables false
open Go Go.RowKit Go.Sort
def dg (m : Nat) : List UInt8 := if m = 0 then [] else Lib.decDigits m
theorem ndig_le : ∀ (k u : Nat), u < 10 ^ (k + 1) → Lib.nDigits u ≤ k + 1
  | 0, u, h => by rw [Lib.nDigits_small (by simpa using h)]; omega
  | k + 1, u, h => by
    by_cases h1 : u < 10
    · rw [Lib.nDigits_small h1]; omega
    · rw [Lib.nDigits_big h1]
      have := ndig_le k (u / 10) (by rw [Nat.pow_succ] at h; omega)
      omega
theorem digs_le {m : Nat} (h : m ≤ 9223372036854775808) : (Lib.decDigits m).length ≤ 20 := by
 rw [Lib.decDigits_length]
 exact ndig_le 19 m (by omega)
end Go.Proofs.YtolapannkcdeeaaGreatDoor.AM
