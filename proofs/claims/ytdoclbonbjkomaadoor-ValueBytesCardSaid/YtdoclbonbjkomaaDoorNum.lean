/- The walks of layer 1's numbers. Condition: a number is a uint64. -/
import Derived.Test.YtdoclbonbjkomaaDoorBase
import Derived.Laws.Externs
import Derived.Laws.Bits64
import Derived.Laws.Bits64b
namespace Go.Proofs.YtdoclbonbjkomaaDoor
open Go.RowKit
set_option linter.unusedSimpArgs false
set_option linter.unusedVariables false

namespace V
/-- are the bits a NaN's: a number that isn't equal to itself -/
def nan (b : Nat) : Bool := FloatKind.f64.format.order b b != some Ordering.eq
def ncanon (b : Nat) : Nat := bif nan b then 9221120237041090560 else b
def nkey (b : Nat) : Nat := bif nan b then 0 else if 9223372036854775808 ≤ b then 18446744073709551615 - b else b + 9223372036854775808
def cmp (a b : Int) : Int := if a < b then -1 else if b < a then 1 else 0
def cmps (a b : List UInt8) : Int := bif Op.bytesLess a b then -1 else bif !(a == b) then 1 else 0
end V

/-- the bits as a float -/
theorem run_frombits (b : Nat) (w : World) : (callFunc 50 #[.int .u64 b]).run Tryd.prog w = .ok (.value (.float .f64 b)) w := by
  rw [run_callFunc_extern Tryd.func50 (by kernel_rfl) (by kernel_rfl) (by kernel_rfl) (e := Go.Extern.MathFloatBits.float64frombits) (by kernel_rfl)]
  rfl

set_option maxHeartbeats 800000 in
theorem isnan_any (b : Nat) (w : World) :
    Calls Tryd.prog 49 #[.float .f64 b] w fun e w' => e = .returned (.bool (V.nan b)) ∧ w' = w := by
  go_enter Tryd.func49, Tryd.ntmps49
  go_wp2
  go_ret
  exact ⟨rfl, rfl⟩

set_option maxHeartbeats 800000 in
theorem ncanon_any (b : Nat) (w : World) :
    Calls Tryd.prog 24 #[.int .u64 b] w fun e w' => e = .returned (.int .u64 (V.ncanon b)) ∧ w' = w := by
  have hfb := run_frombits b
  obtain ⟨p, hp⟩ : ∃ p, p = V.ncanon b := ⟨_, rfl⟩
  rw [← hp]
  have HP := Lib.hid hp
  clear hp
  go_enter Tryd.func24, Tryd.ntmps24
  go_wp2
  all_goals
    rename_i h
    go_ret
    refine ⟨ret_int ?_, rfl⟩
    rw [HP.out]
    unfold V.ncanon V.nan
    rw [h]
    rfl

theorem bits_not (b : Nat) (hb : b < 18446744073709551616) : bits .xor .u64 IntKind.u64.max (b : Int) = ((18446744073709551615 - b : Nat) : Int) := by
  have h := bits_xor_u64_nat 18446744073709551615 b (by decide) hb
  have e : (18446744073709551615 ^^^ b : Nat) = 18446744073709551615 - b := by
    have h1 := congrArg BitVec.toNat (BitVec.allOnes_xor (x := BitVec.ofNat 64 b))
    rw [BitVec.toNat_xor, BitVec.toNat_not, BitVec.toNat_allOnes, BitVec.toNat_ofNat, Nat.mod_eq_of_lt (show b < 2 ^ 64 from hb)] at h1
    exact h1
  rw [e] at h
  exact h
theorem bits_up (b : Nat) (hb : b < 9223372036854775808) : bits .or .u64 (b : Int) 9223372036854775808 = ((b + 9223372036854775808 : Nat) : Int) := by
  have h := bits_or_u64_nat b 9223372036854775808 (by omega) (by decide)
  have e : (b ||| 9223372036854775808 : Nat) = b + 9223372036854775808 := by
    have h1 : 9223372036854775808 + b = 9223372036854775808 ||| b := Nat.two_pow_add_eq_or_of_lt (i := 63) (b := b) hb 1
    rw [Nat.or_comm, ← h1]
    omega
  rw [e] at h
  exact h
set_option maxHeartbeats 800000 in
theorem nkey_any (b : Nat) (hb : b < 18446744073709551616) (w : World) :
    Calls Tryd.prog 55 #[.int .u64 b] w fun e w' => e = .returned (.int .u64 (V.nkey b)) ∧ w' = w := by
  have hfb := run_frombits b
  obtain ⟨p, hp⟩ : ∃ p, p = V.nkey b := ⟨_, rfl⟩
  rw [← hp]
  have HP := Lib.hid hp
  clear hp
  go_enter Tryd.func55, Tryd.ntmps55
  go_wp2
  · rename_i h
    go_ret
    refine ⟨ret_int ?_, rfl⟩
    rw [HP.out]
    unfold V.nkey V.nan
    rw [h]
    rfl
  · rename_i hn h'
    go_ret
    refine ⟨ret_int ?_, rfl⟩
    rw [HP.out]
    unfold V.nkey V.nan
    rw [hn]
    have h63 : 9223372036854775808 ≤ b := by
      have := eq_of_beq h'
      omega
    rw [cond_false, if_pos h63]
    exact bits_not b hb
  · rename_i hn h'
    go_ret
    refine ⟨ret_int ?_, rfl⟩
    rw [HP.out]
    unfold V.nkey V.nan
    rw [hn]
    have h63 : ¬ 9223372036854775808 ≤ b := by
      intro h
      have : ¬ (b : Int) / 9223372036854775808 = 1 := fun e => by rw [e] at h'; exact Bool.noConfusion h'
      omega
    rw [cond_false, if_neg h63]
    exact bits_up b (by omega)

set_option maxHeartbeats 800000 in
theorem cmpu_any (a b : Nat) (w : World) :
    Calls Tryd.prog 54 #[.int .u64 a, .int .u64 b] w fun e w' => e = .returned (.int .i64 (V.cmp a b)) ∧ w' = w := by
  obtain ⟨p, hp⟩ : ∃ p, p = V.cmp a b := ⟨_, rfl⟩
  rw [← hp]
  have HP := Lib.hid hp
  clear hp
  go_enter Tryd.func54, Tryd.ntmps54
  go_wp2
  all_goals
    go_ret
    refine ⟨ret_int ?_, rfl⟩
    rw [HP.out]
    unfold V.cmp
    split
    · omega
    · first
      | omega
      | (split <;> omega)

set_option maxHeartbeats 800000 in
theorem cmpi_any (a b : Int) (w : World) :
    Calls Tryd.prog 29 #[.int .i64 a, .int .i64 b] w fun e w' => e = .returned (.int .i64 (V.cmp a b)) ∧ w' = w := by
  obtain ⟨p, hp⟩ : ∃ p, p = V.cmp a b := ⟨_, rfl⟩
  rw [← hp]
  have HP := Lib.hid hp
  clear hp
  go_enter Tryd.func29, Tryd.ntmps29
  go_wp2
  all_goals
    go_ret
    refine ⟨ret_int ?_, rfl⟩
    rw [HP.out]
    unfold V.cmp
    split
    · omega
    · first
      | omega
      | (split <;> omega)

set_option maxHeartbeats 800000 in
theorem cmps_any (a b : ByteArray) (w : World) :
    Calls Tryd.prog 31 #[.string a, .string b] w fun e w' => e = .returned (.int .i64 (V.cmps a.toList b.toList)) ∧ w' = w := by
  obtain ⟨p, hp⟩ : ∃ p, p = V.cmps a.toList b.toList := ⟨_, rfl⟩
  rw [← hp]
  have HP := Lib.hid hp
  clear hp
  go_enter Tryd.func31, Tryd.ntmps31
  go_wp2
  · rename_i h
    go_ret
    refine ⟨ret_int ?_, rfl⟩
    rw [HP.out]
    unfold V.cmps
    rw [h]
    rfl
  · rename_i hn K a' h'
    go_ret
    refine ⟨ret_int ?_, rfl⟩
    rw [HP.out]
    unfold V.cmps
    rw [hn, h']
    rfl
  · rename_i hn h'
    go_ret
    refine ⟨ret_int ?_, rfl⟩
    rw [HP.out]
    unfold V.cmps
    rw [hn, h']
    rfl

set_option maxHeartbeats 800000 in
theorem norder_any (a b : Nat) (ha : a < 18446744073709551616) (hb : b < 18446744073709551616) (w : World) :
    Calls Tryd.prog 30 #[.int .u64 a, .int .u64 b] w fun e w' => e = .returned (.int .i64 (V.cmp (V.nkey a) (V.nkey b))) ∧ w' = w := by
  go_enter Tryd.func30, Tryd.ntmps30
  go_wp2_with fail
  refine (nkey_any a ha w).mono ?_
  rintro e w1 ⟨rfl, rfl⟩
  go_wp2_with fail
  refine (nkey_any b hb w1).mono ?_
  rintro e w2 ⟨rfl, rfl⟩
  go_wp2_with fail
  refine (cmpu_any (V.nkey a) (V.nkey b) w2).mono ?_
  rintro e w3 ⟨rfl, rfl⟩
  go_wp2_with fail
  go_ret
  exact ⟨rfl, rfl⟩
end Go.Proofs.YtdoclbonbjkomaaDoor
