/- The walks of layer 1's numbers. Condition: a number is a uint64. -/
import Derived.Test.YtjofjpmhokjhnaaDoorBase
import Derived.Laws.Externs
import Derived.Laws.Bits64
import Derived.Laws.Bits64b
namespace Go.Proofs.YtjofjpmhokjhnaaDoor
set_option maxRecDepth 20000
open Go.RowKit
set_option linter.unusedSimpArgs false
set_option linter.unusedVariables false

namespace V
/-- are the bits a NaN's: a number that isn't equal to itself -/
def nan (b : Nat) : Bool := FloatKind.f64.format.order b b != some Ordering.eq
def ncanon (b : Nat) : Nat := bif nan b then 9221120237041090560 else b
def nkey (b : Nat) : Nat := bif nan b then 0 else if 9223372036854775808 ≤ b then 18446744073709551615 - b else b + 9223372036854775808
def cmp (a b : Int) : Int := if a < b then -1 else if b < a then 1 else 0
def cmps (a b : List UInt8) : Int := bif Op.bytesLess a b then -1 else bif !(a == b) then 1 else 0
end V

/-- the bits as a float -/
theorem run_frombits (b : Nat) (w : World) : (callFunc 123 #[.int .u64 b]).run Tryd.prog w = .ok (.value (.float .f64 b)) w := by
  rw [run_callFunc_extern Tryd.func123 (by kernel_rfl) (by kernel_rfl) (by kernel_rfl) (e := Go.Extern.MathFloatBits.float64frombits) (by kernel_rfl)]
  rfl

set_option maxHeartbeats 800000 in
theorem isnan_any (b : Nat) (w : World) :
    Calls Tryd.prog 122 #[.float .f64 b] w fun e w' => e = .returned (.bool (V.nan b)) ∧ w' = w := by
  go_enter Tryd.func122, Tryd.ntmps122
  go_wp2
  go_ret
  exact ⟨rfl, rfl⟩

set_option maxHeartbeats 800000 in
theorem ncanon_any (b : Nat) (w : World) :
    Calls Tryd.prog 104 #[.int .u64 b] w fun e w' => e = .returned (.int .u64 (V.ncanon b)) ∧ w' = w := by
  have hfb := run_frombits b
  obtain ⟨p, hp⟩ : ∃ p, p = V.ncanon b := ⟨_, rfl⟩
  rw [← hp]
  have HP := Lib.hid hp
  clear hp
  go_enter Tryd.func104, Tryd.ntmps104
  go_wp2
  all_goals
    rename_i h
    go_ret
    refine ⟨ret_int ?_, rfl⟩
    rw [HP.out]
    unfold V.ncanon V.nan
    rw [h]
    rfl

end Go.Proofs.YtjofjpmhokjhnaaDoor
