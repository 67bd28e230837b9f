/- The walks of the reference's Formed and Key. Conditions: bits are a uint64, a text is no longer than any Go text. -/
import Derived.Test.YtjofjpmhokjhnaaDoorMbM5
import Derived.Test.YtjofjpmhokjhnaaDoorMbM1
import Derived.Lib.ValidLaws
import Derived.Lib.TrimUEq
import Derived.Laws.RangeString
import Derived.Laws.RangeAny
import Derived.Test.YtjofjpmhokjhnaaDoorMbM6
namespace Go.Proofs.YtjofjpmhokjhnaaDoor
set_option maxRecDepth 20000
open Go.RowKit
set_option linter.unusedSimpArgs false
set_option linter.unusedVariables false

namespace V
def ex (b : Nat) : Nat := b / 4503599627370496 % 2048
def fr (b : Nat) : Nat := b % 4503599627370496
def mi (b : Nat) : Bool := decide (9223372036854775808 ≤ b)
def kind (b : Nat) : Int :=
  if ex b = 2047 ∧ ¬ fr b = 0 then 0
  else if ex b = 2047 ∧ mi b = true then 1
  else if ex b = 2047 then 6
  else if ex b = 0 ∧ fr b = 0 ∧ mi b = true then 3
  else if ex b = 0 ∧ fr b = 0 then 4
  else if mi b = true then 2
  else 5
end V

end Go.Proofs.YtjofjpmhokjhnaaDoor
