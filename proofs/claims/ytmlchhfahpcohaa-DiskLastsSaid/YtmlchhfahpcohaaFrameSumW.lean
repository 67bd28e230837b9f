/- The walks of layer 3's sum, and of the reference's. Conditions: a slice that comes in is no longer than 2^40 bytes. -/
import Derived.Test.YtmlchhfahpcohaaBytes
import Derived.Test.YtmlchhfahpcohaaFrameList
namespace Go.Proofs.Ytmlchhfahpcohaa
open Go.RowKit
set_option linter.unusedSimpArgs false
set_option linter.unusedVariables false

theorem F.step_odd (y : Nat) (h : y < 4294967296) (h2 : y % 2 = 1) : bits BinOp.xor IntKind.u32 ((y : Int) / 2) 3988292384 = ((F.step y : Nat) : Int) := by
  have e := u32_xor_nat (y / 2) 3988292384 (by omega) (by decide)
  unfold F.step
  rw [if_pos h2]
  rw [← show ((F.poly : Nat) : Int) = 3988292384 from rfl]
  have e1 : ((y : Int) / 2) = ((y / 2 : Nat) : Int) := by omega
  rw [e1]
  exact e
theorem F.step_even (y : Nat) (h2 : ¬ y % 2 = 1) : ((y : Int) / 2) = ((F.step y : Nat) : Int) := by
  unfold F.step
  rw [if_neg h2]
  omega
theorem F.step_bits (y : Nat) (h : y < 4294967296) : bits BinOp.xor IntKind.u32 ((y : Int) / 2) (bits BinOp.and IntKind.u32 3988292384 (-bits BinOp.and IntKind.u32 (y : Int) 1 % 4294967296)) = ((F.step y : Nat) : Int) := by
  have e1 : bits BinOp.and IntKind.u32 (y : Int) 1 = ((y % 2 : Nat) : Int) := by
    have := u32_and_nat y 1 h (by decide)
    rw [Nat.and_one_is_mod] at this
    exact this
  rw [e1]
  rcases Nat.mod_two_eq_zero_or_one y with h2 | h2
  · rw [h2]
    have e2 : (-((0 : Nat) : Int)) % 4294967296 = ((0 : Nat) : Int) := by omega
    rw [e2]
    have e3 : bits BinOp.and IntKind.u32 3988292384 ((0 : Nat) : Int) = 0 := by
      have := u32_and_nat 3988292384 0 (by decide) (by decide)
      rw [Nat.and_zero] at this
      exact this
    rw [e3]
    have e4 := u32_xor_nat (y / 2) 0 (by omega) (by decide)
    rw [Nat.xor_zero] at e4
    rw [← F.step_even y (by omega)]
    have e5 : ((y : Int) / 2) = ((y / 2 : Nat) : Int) := by omega
    rw [e5]
    exact e4
  · rw [h2]
    have e2 : (-((1 : Nat) : Int)) % 4294967296 = ((4294967295 : Nat) : Int) := by omega
    rw [e2]
    have e3 : bits BinOp.and IntKind.u32 3988292384 ((4294967295 : Nat) : Int) = 3988292384 := by
      have := u32_and_nat 3988292384 4294967295 (by decide) (by decide)
      rw [show (3988292384 &&& 4294967295 : Nat) = 3988292384 from by decide] at this
      exact this
    rw [e3]
    exact F.step_odd y h h2

theorem F.flip (t : Nat) (h : t < 4294967296) : bits BinOp.xor IntKind.u32 IntKind.u32.max (t : Int) = ((4294967295 - t : Nat) : Int) := by
  have e := u32_xor_nat 4294967295 t (by decide) h
  have e2 : (4294967295 ^^^ t : Nat) = 4294967295 - t := by
    apply Nat.eq_of_testBit_eq
    intro i
    rw [Nat.testBit_xor, show (4294967295 : Nat) - t = 2 ^ 32 - (t + 1) from by omega, Nat.testBit_two_pow_sub_succ (by omega), show (4294967295 : Nat) = 2 ^ 32 - 1 from rfl, Nat.testBit_two_pow_sub_one]
    by_cases hi : i < 32
    · simp [hi]
    · have : t.testBit i = false := Nat.testBit_lt_two_pow (Nat.lt_of_lt_of_le h (Nat.pow_le_pow_right (n := 2) (by omega) (show 32 ≤ i by omega)))
      simp [hi, this]
  rw [e2] at e
  exact e

set_option maxHeartbeats 800000 in
theorem sum_any (A : Option Addr) (c : Nat) (l : List UInt8) (w : World) (B : Nat) (hl : l.length ≤ 1099511627776) (hc : l.length ≤ c) (hr : Rd w B A (bc l)) :
    Calls Try.prog 34 #[.slice A l.length c] w fun e w' => e = .returned (.int .u32 (F.sum l : Nat)) ∧ w = w' := by
  obtain ⟨n, hn⟩ : ∃ n, n = l.length := ⟨_, rfl⟩
  have HN := Lib.hid hn
  rw [← hn] at hl hc ⊢
  clear hn
  go_enter Try.func34, Try.ntmps34
  go_wp2_with fail
  go_loop [3, 8] (fun s i => ∃ (k t : Nat), k ≤ n ∧ i = .int .i64 k ∧ s = .int .u32 (t : Int) ∧ t < 4294967296 ∧ Hid (F.run t (l.drop k) = F.run 4294967295 l)) (fun _ i => n - (intOf i).toNat)
  case atStart => exact ⟨0, 4294967295, Nat.zero_le _, rfl, rfl, by omega, rfl⟩
  case round =>
    obtain ⟨k, t, hk, rfl, rfl, ht, HR⟩ := hrel
    by_cases hlt : k < n
    · have hk2 : k < (bc l).length := by rw [bc_len, ← HN.out]; exact hlt
      obtain ⟨ab, ao, rfl, _, hca⟩ := hr.at_ hk2
      rw [bc_get] at hca
      have hjo : k < l.length := by rw [← HN.out]; exact hlt
      have HR2 : Hid (F.run (F.upd t l[k]) (l.drop (k + 1)) = F.run 4294967295 l) := by
        show _ = _
        rw [← HR.out, List.drop_eq_getElem_cons hjo]; rfl
      have hby := (l[k]'hjo).toNat_lt
      generalize l[k]'hjo = b at hca HR2 hby
      have hb0 : (0 : Int) ≤ (k : Int) := by omega
      have hb1 : (k : Int) < (n : Int) := by omega
      clear hk2
      go_wp2_with fail
      rw [u32_xor_nat t b.toNat ht (by omega)]
      have hx : t ^^^ b.toNat < 4294967296 := Nat.xor_lt_two_pow (n := 32) ht (by omega)
      unfold F.upd at HR2
      generalize t ^^^ b.toNat = x at hx HR2 ⊢
      clear HR
      go_loop [3, 16] (fun s i => ∃ (j y : Nat), j ≤ 8 ∧ i = .int .i64 j ∧ s = .int .u32 (y : Int) ∧ y < 4294967296 ∧ Hid (F.steps (8 - j) y = F.steps 8 x)) (fun _ i => 8 - (intOf i).toNat)
      case atStart => exact ⟨0, x, by omega, rfl, rfl, hx, rfl⟩
      case round =>
        obtain ⟨j, y, hj, rfl, rfl, hy, HS⟩ := hrel
        by_cases hj8 : j < 8
        · have HS2 : Hid (F.steps (8 - (j + 1)) (F.step y) = F.steps 8 x) := by
            show _ = _
            rw [← HS.out, show 8 - j = (8 - (j + 1)) + 1 from by omega]; rfl
          have hy2 := F.step_lt hy
          have HB := Lib.hid (F.step_bits y hy)
          clear HS
          go_wp2_with fail
          refine ⟨⟨j + 1, F.step y, by omega, by go_num, by rw [HB.out], hy2, HS2⟩, by simp [intOf]; omega⟩
        · obtain rfl : j = 8 := by omega
          have hyx : y = F.steps 8 x := by have := HS.out; simpa [F.steps] using this
          clear HS
          rw [← hyx] at HR2
          clear hyx
          go_wp2_with fail
          exact ⟨⟨k + 1, y, by omega, by go_num, rfl, hy, HR2⟩, by simp [intOf]; omega⟩
    · obtain rfl : k = n := by omega
      have hfin : F.sum l = 4294967295 - t := by
        have := HR.out
        rw [List.drop_of_length_le (by rw [← HN.out]; omega)] at this
        unfold F.sum; rw [← this]; rfl
      have HF := Lib.hid hfin
      clear hfin HR
      go_wp2_with fail
      go_ret
      refine ⟨ret_int ?_, rfl⟩
      rw [HF.out]
      exact F.flip t ht

set_option maxHeartbeats 800000 in
theorem rsum_any (A : Option Addr) (c : Nat) (l : List UInt8) (w : World) (B : Nat) (hl : l.length ≤ 1099511627776) (hc : l.length ≤ c) (hr : Rd w B A (bc l)) :
    Calls Try.prog 35 #[.slice A l.length c] w fun e w' => e = .returned (.int .u32 (F.sum l : Nat)) ∧ w = w' := by
  obtain ⟨n, hn⟩ : ∃ n, n = l.length := ⟨_, rfl⟩
  have HN := Lib.hid hn
  rw [← hn] at hl hc ⊢
  clear hn
  go_enter Try.func35, Try.ntmps35
  go_wp2_with fail
  go_loop [3, 4, 5] (fun s i _ => ∃ (k t : Nat), k ≤ n ∧ i = .int .i64 k ∧ s = .int .u32 (t : Int) ∧ t < 4294967296 ∧ Hid (F.run t (l.drop k) = F.run 4294967295 l)) (fun _ i _ => n - (intOf i).toNat)
  case atStart => exact ⟨0, 4294967295, Nat.zero_le _, rfl, rfl, by omega, rfl⟩
  case round =>
    obtain ⟨k, t, hk, rfl, rfl, ht, HR⟩ := hrel
    by_cases hlt : k < n
    · have hk2 : k < (bc l).length := by rw [bc_len, ← HN.out]; exact hlt
      obtain ⟨ab, ao, rfl, _, hca⟩ := hr.at_ hk2
      rw [bc_get] at hca
      have hjo : k < l.length := by rw [← HN.out]; exact hlt
      have HR2 : Hid (F.run (F.upd t l[k]) (l.drop (k + 1)) = F.run 4294967295 l) := by
        show _ = _
        rw [← HR.out, List.drop_eq_getElem_cons hjo]; rfl
      have hby := (l[k]'hjo).toNat_lt
      generalize l[k]'hjo = b at hca HR2 hby
      have hb0 : (0 : Int) ≤ (k : Int) := by omega
      have hb1 : (k : Int) < (n : Int) := by omega
      clear hk2
      go_wp2_with fail
      rw [u32_xor_nat t b.toNat ht (by omega)]
      have hx : t ^^^ b.toNat < 4294967296 := Nat.xor_lt_two_pow (n := 32) ht (by omega)
      unfold F.upd at HR2
      generalize t ^^^ b.toNat = x at hx HR2 ⊢
      clear HR
      go_loop [3, 5] (fun s i => ∃ (j y : Nat), j ≤ 8 ∧ i = .int .i64 j ∧ s = .int .u32 (y : Int) ∧ y < 4294967296 ∧ Hid (F.steps (8 - j) y = F.steps 8 x)) (fun _ i => 8 - (intOf i).toNat)
      case atStart => exact ⟨0, x, by omega, rfl, rfl, hx, rfl⟩
      case round =>
        obtain ⟨j, y, hj, rfl, rfl, hy, HS⟩ := hrel
        by_cases hj8 : j < 8
        · have HS2 : Hid (F.steps (8 - (j + 1)) (F.step y) = F.steps 8 x) := by
            show _ = _
            rw [← HS.out, show 8 - j = (8 - (j + 1)) + 1 from by omega]; rfl
          have hy2 := F.step_lt hy
          clear HS
          by_cases ho : y % 2 = 1
          · have HB := Lib.hid (F.step_odd y hy ho)
            have ho1 : ((y : Int) % 2 == 1) = true := by simp; omega
            clear ho
            go_wp2_with fail
            refine ⟨⟨j + 1, F.step y, by omega, by go_num, by rw [HB.out], hy2, HS2⟩, by simp [intOf]; omega⟩
          · have HB := Lib.hid (F.step_even y ho)
            have ho1 : ((y : Int) % 2 == 1) = false := by simp; omega
            clear ho
            go_wp2_with fail
            refine ⟨⟨j + 1, F.step y, by omega, by go_num, by rw [HB.out], hy2, HS2⟩, by simp [intOf]; omega⟩
        · obtain rfl : j = 8 := by omega
          have hyx : y = F.steps 8 x := by have := HS.out; simpa [F.steps] using this
          clear HS
          rw [← hyx] at HR2
          clear hyx
          go_wp2_with fail
          exact ⟨⟨k + 1, y, by omega, by go_num, rfl, hy, HR2⟩, by simp [intOf]; omega⟩
    · obtain rfl : k = n := by omega
      have hfin : F.sum l = 4294967295 - t := by
        have := HR.out
        rw [List.drop_of_length_le (by rw [← HN.out]; omega)] at this
        unfold F.sum; rw [← this]; rfl
      have HF := Lib.hid hfin
      clear hfin HR
      go_wp2_with fail
      go_ret
      refine ⟨ret_int ?_, rfl⟩
      rw [HF.out]
      omega
end Go.Proofs.Ytmlchhfahpcohaa
