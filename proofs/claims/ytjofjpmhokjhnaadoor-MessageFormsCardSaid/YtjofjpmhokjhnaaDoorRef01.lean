/- The walks of the reference of layer 1: parts, Kind, Canon, Order. Condition: bits are a uint64. -/
import Derived.Test.YtjofjpmhokjhnaaDoorNum
namespace Go.Proofs.YtjofjpmhokjhnaaDoor
set_option maxRecDepth 20000
open Go.RowKit
set_option linter.unusedSimpArgs false
set_option linter.unusedVariables false

namespace V
theorem nan_eq (b : Nat) : nan b = decide (9218868437227405312 < b % 9223372036854775808) := by
  unfold nan Ieee.Format.order Ieee.Format.read
  have hs : FloatKind.f64.format.signWeight = 9223372036854775808 := by decide
  have hb : FloatKind.f64.format.binade = 4503599627370496 := by decide
  have hi : FloatKind.f64.format.infRung = 9218868437227405312 := by decide
  simp only [hs, hb, hi]
  generalize b % 9223372036854775808 = m
  split
  · rw [decide_eq_false (by omega)]; simp [Ieee.Datum.order]
  · split
    · rw [decide_eq_false (by omega)]; simp [Ieee.Datum.order]
    · split
      · rw [decide_eq_false (by omega)]; simp [Ieee.Datum.order]
      · rw [decide_eq_true (by omega)]; simp [Ieee.Datum.order]
def ex (b : Nat) : Nat := b / 4503599627370496 % 2048
def fr (b : Nat) : Nat := b % 4503599627370496
def mi (b : Nat) : Bool := decide (9223372036854775808 ≤ b)
def kind (b : Nat) : Int :=
  if ex b = 2047 ∧ ¬ fr b = 0 then 0
  else if ex b = 2047 ∧ mi b = true then 1
  else if ex b = 2047 then 6
  else if ex b = 0 ∧ fr b = 0 ∧ mi b = true then 3
  else if ex b = 0 ∧ fr b = 0 then 4
  else if mi b = true then 2
  else 5
theorem nan_kind (b : Nat) : nan b = decide (kind b = 0) := by
  rw [nan_eq]
  unfold kind ex fr mi
  by_cases h : 9218868437227405312 < b % 9223372036854775808
  · rw [decide_eq_true h, if_pos (by omega)]; rfl
  · rw [decide_eq_false h, if_neg (by omega)]
    symm
    apply decide_eq_false
    repeat' split
    all_goals omega
def rorder (a b : Nat) : Int :=
  if kind a < kind b then -1 else if kind b < kind a then 1
  else if kind a = 0 ∨ a % 9223372036854775808 = b % 9223372036854775808 then 0
  else if (a % 9223372036854775808 < b % 9223372036854775808 ↔ kind a = 5) then -1 else 1
/-- a kind, by the magnitude and the sign -/
theorem kind_cases (b : Nat) (hb : b < 18446744073709551616) :
    (kind b = 0 ∧ nan b = true ∧ nkey b = 0) ∨ (kind b = 1 ∧ nkey b = 4503599627370495 ∧ b % 9223372036854775808 = 9218868437227405312) ∨
    (kind b = 2 ∧ 4503599627370495 < nkey b ∧ nkey b < 9223372036854775807 ∧ nkey b + b % 9223372036854775808 = 9223372036854775807) ∨
    (kind b = 3 ∧ nkey b = 9223372036854775807 ∧ b % 9223372036854775808 = 0) ∨ (kind b = 4 ∧ nkey b = 9223372036854775808 ∧ b % 9223372036854775808 = 0) ∨
    (kind b = 5 ∧ 9223372036854775808 < nkey b ∧ nkey b < 18442240474082181120 ∧ nkey b = 9223372036854775808 + b % 9223372036854775808) ∨
    (kind b = 6 ∧ nkey b = 18442240474082181120 ∧ b % 9223372036854775808 = 9218868437227405312) := by
  have h0 := nan_kind b
  have hn := nan_eq b
  unfold nkey
  rw [h0] at hn ⊢
  by_cases hk : kind b = 0
  · rw [decide_eq_true hk]; exact Or.inl ⟨hk, rfl, rfl⟩
  · rw [decide_eq_false hk] at hn ⊢
    have hm : ¬ 9218868437227405312 < b % 9223372036854775808 := fun h => by rw [decide_eq_true h] at hn; exact Bool.noConfusion hn
    rw [cond_false]
    clear hn h0
    generalize hq : (if 9223372036854775808 ≤ b then 18446744073709551615 - b else b + 9223372036854775808) = q
    unfold kind ex fr mi at *
    simp only [decide_eq_true_eq] at *
    by_cases hs : 9223372036854775808 ≤ b
    · rw [if_pos hs] at hq
      by_cases c1 : b % 9223372036854775808 = 9218868437227405312
      · right; left
        exact ⟨by rw [if_neg (by omega), if_pos (by omega)], by omega, by omega⟩
      · by_cases c2 : b % 9223372036854775808 = 0
        · right; right; right; left
          exact ⟨by rw [if_neg (by omega), if_neg (by omega), if_neg (by omega), if_pos (by omega)], by omega, by omega⟩
        · right; right; left
          exact ⟨by rw [if_neg (by omega), if_neg (by omega), if_neg (by omega), if_neg (by omega), if_neg (by omega), if_pos hs], by omega, by omega, by omega⟩
    · rw [if_neg hs] at hq
      by_cases c1 : b % 9223372036854775808 = 9218868437227405312
      · right; right; right; right; right; right
        exact ⟨by rw [if_neg (by omega), if_neg (by omega), if_pos (by omega)], by omega, by omega⟩
      · by_cases c2 : b % 9223372036854775808 = 0
        · right; right; right; right; left
          exact ⟨by rw [if_neg (by omega), if_neg (by omega), if_neg (by omega), if_neg (by omega), if_pos (by omega)], by omega, by omega⟩
        · right; right; right; right; right; left
          exact ⟨by rw [if_neg (by omega), if_neg (by omega), if_neg (by omega), if_neg (by omega), if_neg (by omega), if_neg hs], by omega, by omega, by omega⟩
theorem rorder_eq (a b : Nat) (ha : a < 18446744073709551616) (hb : b < 18446744073709551616) : rorder a b = cmp (nkey a) (nkey b) := by
  have h1 := kind_cases a ha
  have h2 := kind_cases b hb
  unfold rorder cmp
  generalize kind a = x at *
  generalize kind b = y at *
  generalize nkey a = p at *
  generalize nkey b = q at *
  generalize a % 9223372036854775808 = u at *
  generalize b % 9223372036854775808 = v at *
  clear ha hb
  rcases h1 with h1 | h1 | h1 | h1 | h1 | h1 | h1 <;> rcases h2 with h2 | h2 | h2 | h2 | h2 | h2 | h2 <;> (repeat' split) <;> omega
end V

theorem and11 (b : Nat) (hb : b < 18446744073709551616) : bits .and .u64 ((b : Int) / 4503599627370496) 2047 = ((V.ex b : Nat) : Int) := by
  have h := bits_and_u64_nat (b / 4503599627370496) 2047 (by omega) (by decide)
  rw [show (b / 4503599627370496 &&& 2047 : Nat) = b / 4503599627370496 % 2048 from Nat.and_two_pow_sub_one_eq_mod _ 11] at h
  exact h
theorem and52 (b : Nat) (hb : b < 18446744073709551616) : bits .and .u64 (b : Int) 4503599627370495 = ((V.fr b : Nat) : Int) := by
  have h := bits_and_u64_nat b 4503599627370495 (by omega) (by decide)
  rw [show (b &&& 4503599627370495 : Nat) = b % 4503599627370496 from Nat.and_two_pow_sub_one_eq_mod _ 52] at h
  exact h
theorem and63 (b : Nat) (hb : b < 18446744073709551616) : bits .and .u64 (b : Int) 9223372036854775807 = ((b % 9223372036854775808 : Nat) : Int) := by
  have h := bits_and_u64_nat b 9223372036854775807 (by omega) (by decide)
  rw [show (b &&& 9223372036854775807 : Nat) = b % 9223372036854775808 from Nat.and_two_pow_sub_one_eq_mod _ 63] at h
  exact h
set_option maxHeartbeats 800000 in
theorem parts_any (b : Nat) (hb : b < 18446744073709551616) (w : World) :
    Calls Tryd.prog 142 #[.int .u64 b] w fun e w' => e = .returned (.tuple #[.bool (V.mi b), .int .u64 (V.ex b), .int .u64 (V.fr b)]) ∧ w' = w := by
  go_enter Tryd.func142, Tryd.ntmps142
  go_wp2
  go_ret3
  refine ⟨ret_of ?_, rfl⟩
  congr 1
  rw [← and11 b hb, ← and52 b hb, show V.mi b = decide ((9223372036854775808 : Int) ≤ (b : Int)) from by unfold V.mi; congr 1; simp; omega]
  rfl
def V.kindOf (m : Bool) (e f : Nat) : Int :=
  if e = 2047 ∧ ¬ f = 0 then 0
  else if e = 2047 ∧ m = true then 1
  else if e = 2047 then 6
  else if e = 0 ∧ f = 0 ∧ m = true then 3
  else if e = 0 ∧ f = 0 then 4
  else if m = true then 2
  else 5
set_option maxHeartbeats 1600000 in
theorem rkind_any (b : Nat) (hb : b < 18446744073709551616) (w : World) :
    Calls Tryd.prog 132 #[.int .u64 b] w fun e w' => e = .returned (.int .i64 (V.kind b)) ∧ w' = w := by
  rw [show V.kind b = V.kindOf (V.mi b) (V.ex b) (V.fr b) from rfl]
  have hp := Lib.hid (parts_any b hb w)
  generalize V.mi b = m at *
  generalize V.ex b = e at *
  generalize V.fr b = f at *
  obtain ⟨p, hq⟩ : ∃ p, p = V.kindOf m e f := ⟨_, rfl⟩
  rw [← hq]
  have HQ := Lib.hid hq
  clear hq
  go_enter Tryd.func132, Tryd.ntmps132
  go_wp2_with fail
  refine hp.out.mono ?_
  rintro e' w1 ⟨rfl, rfl⟩
  clear hp
  by_cases he : e = 2047
  · subst he
    by_cases hf : f = 0
    · subst hf
      cases m
      all_goals
        go_wp2_with fail
        go_ret
        exact ⟨ret_int (by rw [HQ.out]; rfl), rfl⟩
    · have hf2 : ¬ (f : Int) = 0 := by omega
      cases m
      all_goals
        go_wp2_with fail
        go_ret
        exact ⟨ret_int (by rw [HQ.out]; simp [V.kindOf, hf]), rfl⟩
  · have he2 : ¬ (e : Int) = 2047 := by omega
    by_cases h0 : e = 0
    · subst h0
      by_cases hf : f = 0
      · subst hf
        cases m
        all_goals
          go_wp2_with fail
          go_ret
          exact ⟨ret_int (by rw [HQ.out]; rfl), rfl⟩
      · have hf2 : ¬ (f : Int) = 0 := by omega
        cases m
        all_goals
          go_wp2_with fail
          go_ret
          exact ⟨ret_int (by rw [HQ.out]; simp [V.kindOf, hf]), rfl⟩
    · have h02 : ¬ (e : Int) = 0 := by omega
      cases m
      all_goals
        go_wp2_with fail
        go_ret
        exact ⟨ret_int (by rw [HQ.out]; simp [V.kindOf, he, h0]), rfl⟩

set_option maxHeartbeats 800000 in
theorem rcanon_any (b : Nat) (hb : b < 18446744073709551616) (w : World) :
    Calls Tryd.prog 111 #[.int .u64 b] w fun e w' => e = .returned (.int .u64 (V.ncanon b)) ∧ w' = w := by
  have hk := rkind_any b hb
  have hn := V.nan_kind b
  obtain ⟨p, hp⟩ : ∃ p, p = V.ncanon b := ⟨_, rfl⟩
  rw [← hp]
  unfold V.ncanon at hp
  rw [hn] at hp
  clear hn
  by_cases h : V.kind b = 0
  · rw [decide_eq_true h] at hp
    rw [h] at hk
    have HK := Lib.hid hk
    clear hk h
    replace hp : p = 9221120237041090560 := hp
    subst hp
    go_enter Tryd.func111, Tryd.ntmps111
    go_wp2_with fail
    refine (HK.out w).mono ?_
    rintro e' w1 ⟨rfl, rfl⟩
    go_wp2_with fail
    go_ret
    exact ⟨rfl, rfl⟩
  · rw [decide_eq_false h] at hp
    have HK := Lib.hid hk
    clear hk
    replace hp : p = b := hp
    subst hp
    obtain ⟨q, hq⟩ : ∃ q, q = V.kind p := ⟨_, rfl⟩
    rw [← hq] at HK h
    clear hq
    have h' : (q == 0) = false := by simpa using h
    clear h
    go_enter Tryd.func111, Tryd.ntmps111
    go_wp2_with fail
    refine (HK.out w).mono ?_
    rintro e' w1 ⟨rfl, rfl⟩
    go_wp2_with fail
    go_ret
    exact ⟨rfl, rfl⟩

end Go.Proofs.YtjofjpmhokjhnaaDoor
