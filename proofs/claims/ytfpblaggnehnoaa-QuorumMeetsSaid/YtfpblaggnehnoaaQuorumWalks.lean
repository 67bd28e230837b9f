/- The walks of layer 5's functions, and of the reference's: what each returns, and that the world stays as it was. Conditions: a set is a uint64. -/
import Derived.Test.YtfpblaggnehnoaaBase
import Derived.Test.YtfpblaggnehnoaaQuorumPlain
namespace Go.Proofs.Ytfpblaggnehnoaa
open Go.RowKit

theorem u64_and_nat' (a b : Nat) (ha : a < 18446744073709551616) (hb : b < 18446744073709551616) : bits .and .u64 (a : Int) (b : Int) = ((a &&& b : Nat) : Int) := u64_and_nat a b ha hb

theorem wrap_u64_nat {a : Nat} (h : a < 18446744073709551616) : IntKind.u64.wrap (a : Int) = (a : Int) := by rw [IntKind.wrap_u64]; omega
theorem two_pow_lt {k : Nat} (h : k ≤ 63) : (2 ^ k : Nat) < 18446744073709551616 := by
  have : (2 ^ k : Nat) < 2 ^ 64 := Nat.pow_lt_pow_right (by omega) (by omega)
  omega
theorem has_test (s : Nat) (n : Int) (hs : s < 18446744073709551616) (h0 : 0 ≤ n) (h1 : n ≤ 63) : (bits BinOp.and IntKind.u64 ((s : Int) / 2 ^ n.toNat) 1 == 1) = Q.hasB s n := by
  have e : ((s : Int) / 2 ^ n.toNat) = ((s / 2 ^ n.toNat : Nat) : Int) := by simp
  have hl : s / 2 ^ n.toNat < 18446744073709551616 := Nat.lt_of_le_of_lt (Nat.div_le_self _ _) hs
  have e2 := u64_and_nat (s / 2 ^ n.toNat) 1 hl (by omega)
  rw [e, show (1 : Int) = ((1 : Nat) : Int) from rfl, e2, Q.one_land, Q.shr_bit]
  unfold Q.hasB
  cases s.testBit n.toNat <;> simp <;> omega
theorem only_val (s : Nat) (n : Int) (hs : s < 18446744073709551616) (h0 : 0 ≤ n) (h1 : n < 64) :
    bits BinOp.and IntKind.u64 (s : Int) (IntKind.u64.wrap (IntKind.u64.wrap (2 ^ n.toNat) - 1)) = ((s % 2 ^ Q.clampN n : Nat) : Int) := by
  have e : (2 : Int) ^ n.toNat = ((2 ^ n.toNat : Nat) : Int) := by simp
  have hc : Q.clampN n = n.toNat := by unfold Q.clampN; omega
  have hp := two_pow_lt (k := n.toNat) (by omega)
  have hp0 : 0 < (2 ^ n.toNat : Nat) := Nat.pow_pos (by omega)
  have e3 : ((2 ^ n.toNat : Nat) : Int) - 1 = ((2 ^ n.toNat - 1 : Nat) : Int) := by omega
  rw [e, wrap_u64_nat hp, e3, wrap_u64_nat (by omega), u64_and_nat _ _ hs (by omega), Nat.and_two_pow_sub_one_eq_mod, hc]

set_option maxHeartbeats 400000 in
theorem least_any (n : Int) (w : World) :
    Calls Try.prog 42 #[.int .i64 n] w fun e w' => e = .returned (.int .i64 (Q.leastN n : Nat)) ∧ w = w' := by
  go_enter Try.func42, Try.ntmps42
  go_wp2
  all_goals (go_ret; exact ⟨ret_int (by unfold Q.leastN Q.clampN; first | omega | (split at * <;> omega)), rfl⟩)

set_option maxHeartbeats 400000 in
theorem add_any (s : Nat) (n : Int) (w : World) (hs : s < 18446744073709551616) :
    Calls Try.prog 36 #[.int .u64 (s : Int), .int .i64 n] w fun e w' => e = .returned (.int .u64 (Q.addN s n : Nat)) ∧ w = w' := by
  by_cases h0 : 0 ≤ n
  · by_cases h1 : n ≤ 63
    · have h2 : (2 ^ n.toNat : Nat) < 18446744073709551616 := by
        have : (2 ^ n.toNat : Nat) < 2 ^ 64 := Nat.pow_lt_pow_right (by omega) (by omega)
        omega
      have H : Hid (bits BinOp.or IntKind.u64 (s : Int) (IntKind.u64.wrap (2 ^ n.toNat)) = (Q.addN s n : Nat)) := by
        have e : (2 : Int) ^ n.toNat = ((2 ^ n.toNat : Nat) : Int) := by simp
        have e2 : IntKind.u64.wrap ((2 ^ n.toNat : Nat) : Int) = ((2 ^ n.toNat : Nat) : Int) := wrap_u64_nat h2
        show _ = _
        rw [e, e2, u64_or_nat _ _ hs h2]
        unfold Q.addN
        rw [if_pos ⟨h0, h1⟩]
      go_enter Try.func36, Try.ntmps36
      go_wp2
      go_ret
      exact ⟨ret_int H.out, rfl⟩
    · have H : Hid (Q.addN s n = s) := by show _ = _; unfold Q.addN; rw [if_neg (by omega)]
      go_enter Try.func36, Try.ntmps36
      go_wp2
      go_ret
      exact ⟨ret_int (by rw [H.out]), rfl⟩
  · have H : Hid (Q.addN s n = s) := by show _ = _; unfold Q.addN; rw [if_neg (by omega)]
    go_enter Try.func36, Try.ntmps36
    go_wp2
    go_ret
    exact ⟨ret_int (by rw [H.out]), rfl⟩

set_option maxHeartbeats 400000 in
theorem has_any (s : Nat) (n : Int) (w : World) (hs : s < 18446744073709551616) :
    Calls Try.prog 38 #[.int .u64 (s : Int), .int .i64 n] w fun e w' => e = .returned (.bool (Q.hasB s n)) ∧ w = w' := by
  by_cases h0 : 0 ≤ n
  · by_cases h1 : n ≤ 63
    · go_enter Try.func38, Try.ntmps38
      go_wp2
      go_ret
      exact ⟨ret_bool (has_test s n hs h0 h1), rfl⟩
    · have H : Hid (Q.hasB s n = false) := by show _ = _; unfold Q.hasB; simp; omega
      go_enter Try.func38, Try.ntmps38
      go_wp2
      go_ret
      exact ⟨ret_bool (by rw [H.out]), rfl⟩
  · have H : Hid (Q.hasB s n = false) := by show _ = _; unfold Q.hasB; simp; omega
    go_enter Try.func38, Try.ntmps38
    go_wp2
    go_ret
    exact ⟨ret_bool (by rw [H.out]), rfl⟩

set_option maxHeartbeats 400000 in
theorem only_any (s : Nat) (n : Int) (w : World) (hs : s < 18446744073709551616) :
    Calls Try.prog 63 #[.int .u64 (s : Int), .int .i64 n] w fun e w' => e = .returned (.int .u64 ((s % 2 ^ Q.clampN n : Nat))) ∧ w = w' := by
  by_cases h0 : 64 ≤ n
  · have H : Hid (s % 2 ^ Q.clampN n = s) := by
      show _ = _
      have : Q.clampN n = 64 := by unfold Q.clampN; omega
      rw [this]; exact Nat.mod_eq_of_lt (by omega)
    go_enter Try.func63, Try.ntmps63
    go_wp2
    go_ret
    exact ⟨ret_int (by rw [H.out]), rfl⟩
  · by_cases h1 : 0 ≤ n
    · go_enter Try.func63, Try.ntmps63
      go_wp2
      go_ret
      exact ⟨ret_int (only_val s n hs h1 (by omega)), rfl⟩
    · go_enter Try.func63, Try.ntmps63
      go_wp2
      go_ret
      refine ⟨ret_int ?_, rfl⟩
      have hc : Q.clampN n = 0 := by unfold Q.clampN; omega
      rw [hc, show (0 : Int) = ((0 : Nat) : Int) from rfl, u64_and_nat _ _ hs (by omega)]
      simp

theorem st1 (s : Nat) (hs : s < 18446744073709551616) : IntKind.u64.wrap (bits BinOp.and IntKind.u64 ((s : Int) / 2) 6148914691236517205 + bits BinOp.and IntKind.u64 (s : Int) 6148914691236517205) = ((Q.p1 s : Nat) : Int) := by
  have e1 := u64_and_nat (s / 2) 6148914691236517205 (by omega) (by omega)
  have e2 := u64_and_nat s 6148914691236517205 hs (by omega)
  simp only [Int.natCast_ediv, Int.cast_ofNat_Int] at e1 e2
  rw [e1, e2, ← Int.natCast_add, wrap_u64_nat]
  · rfl
  · have h1 : (s / 2 &&& 6148914691236517205) ≤ 6148914691236517205 := Nat.and_le_right
    have h2 : (s &&& 6148914691236517205) ≤ 6148914691236517205 := Nat.and_le_right
    omega
theorem st2 (s : Nat) (hs : s < 18446744073709551616) : IntKind.u64.wrap (bits BinOp.and IntKind.u64 ((s : Int) / 4) 3689348814741910323 + bits BinOp.and IntKind.u64 (s : Int) 3689348814741910323) = ((Q.p2 s : Nat) : Int) := by
  have e1 := u64_and_nat (s / 4) 3689348814741910323 (by omega) (by omega)
  have e2 := u64_and_nat s 3689348814741910323 hs (by omega)
  simp only [Int.natCast_ediv, Int.cast_ofNat_Int] at e1 e2
  rw [e1, e2, ← Int.natCast_add, wrap_u64_nat]
  · rfl
  · have h1 : (s / 4 &&& 3689348814741910323) ≤ 3689348814741910323 := Nat.and_le_right
    have h2 : (s &&& 3689348814741910323) ≤ 3689348814741910323 := Nat.and_le_right
    omega
theorem st3 (s : Nat) (hs : s < 8446744073709551616) : bits BinOp.and IntKind.u64 (IntKind.u64.wrap ((s : Int) / 16 + (s : Int))) 1085102592571150095 = ((Q.p3 s : Nat) : Int) := by
  have e0 : (s : Int) / 16 + (s : Int) = ((s / 16 + s : Nat) : Int) := by omega
  rw [e0, wrap_u64_nat (by omega)]
  exact u64_and_nat (s / 16 + s) 1085102592571150095 (by omega) (by omega)
theorem i64_and_nat (a b : Nat) (ha : a < 9223372036854775808) (hb : b < 9223372036854775808) : bits .and .i64 (a : Int) (b : Int) = ((a &&& b : Nat) : Int) := by
  have hx : a &&& b < 2 ^ 63 := Nat.and_lt_two_pow _ (by omega)
  have e : ∀ c : Nat, c < 9223372036854775808 → (BitVec.ofInt 64 (c : Int)).toNat = c := fun c hc => by
    rw [BitVec.ofInt_natCast, BitVec.toNat_ofNat]; exact Nat.mod_eq_of_lt (by omega)
  show IntKind.i64.wrap ((BitVec.ofInt 64 (a : Int) &&& BitVec.ofInt 64 (b : Int)).toNat : Int) = _
  rw [BitVec.toNat_and, e a ha, e b hb, IntKind.wrap_i64]
  omega
theorem st7 (s : Nat) (hs : s < 9223372036854775808) : bits BinOp.and IntKind.i64 (wrap64 (s : Int)) 127 = ((s % 128 : Nat) : Int) := by
  have e : wrap64 (s : Int) = (s : Int) := by unfold wrap64; omega
  rw [e]
  have := i64_and_nat s 127 hs (by omega)
  rw [show (127 : Nat) = 2 ^ 7 - 1 from rfl, Nat.and_two_pow_sub_one_eq_mod] at this
  exact this

theorem p1_lt (s : Nat) : Q.p1 s < 18446744073709551616 := by
  have h1 : (s / 2 &&& 6148914691236517205) ≤ 6148914691236517205 := Nat.and_le_right
  have h2 : (s &&& 6148914691236517205) ≤ 6148914691236517205 := Nat.and_le_right
  unfold Q.p1; omega
theorem p2_lt (s : Nat) : Q.p2 s < 8446744073709551616 := by
  have h1 : (s / 4 &&& 3689348814741910323) ≤ 3689348814741910323 := Nat.and_le_right
  have h2 : (s &&& 3689348814741910323) ≤ 3689348814741910323 := Nat.and_le_right
  unfold Q.p2; omega
theorem st4 (s : Nat) (h : Q.p4 s < 18446744073709551616) : IntKind.u64.wrap ((s : Int) + (s : Int) / 256) = ((Q.p4 s : Nat) : Int) := by
  have e : (s : Int) + (s : Int) / 256 = ((Q.p4 s : Nat) : Int) := by unfold Q.p4; omega
  rw [e, wrap_u64_nat h]
theorem st5 (s : Nat) (h : Q.p5 s < 18446744073709551616) : IntKind.u64.wrap ((s : Int) + (s : Int) / 65536) = ((Q.p5 s : Nat) : Int) := by
  have e : (s : Int) + (s : Int) / 65536 = ((Q.p5 s : Nat) : Int) := by unfold Q.p5; omega
  rw [e, wrap_u64_nat h]
theorem st6 (s : Nat) (h : Q.p6 s < 18446744073709551616) : IntKind.u64.wrap ((s : Int) + (s : Int) / 4294967296) = ((Q.p6 s : Nat) : Int) := by
  have e : (s : Int) + (s : Int) / 4294967296 = ((Q.p6 s : Nat) : Int) := by unfold Q.p6; omega
  rw [e, wrap_u64_nat h]

set_option maxHeartbeats 800000 in
theorem ones_any (s : Nat) (w : World) (hs : s < 18446744073709551616) :
    Calls Try.prog 62 #[.int .u64 (s : Int)] w fun e w' => e = .returned (.int .i64 (Q.cnt s 64 : Nat)) ∧ w = w' := by
  have H1 := Lib.hid (st1 s hs)
  have H2 := Lib.hid (st2 (Q.p1 s) (p1_lt s))
  have H3 := Lib.hid (st3 (Q.p2 (Q.p1 s)) (p2_lt _))
  have HP := Lib.hid (Q.p654 s)
  have H4 := Lib.hid (st4 _ HP.out.2.1)
  have H5 := Lib.hid (st5 _ HP.out.2.2.1)
  have H6 := Lib.hid (st6 (Q.p5 (Q.p4 (Q.p3 (Q.p2 (Q.p1 s))))) (Nat.lt_trans HP.out.2.2.2 (by omega)))
  have H7 := Lib.hid (st7 _ HP.out.2.2.2)
  clear hs
  go_enter Try.func62, Try.ntmps62
  go_upto_region 2 with fail
  rw [H1.out]
  go_upto_region 3 with fail
  rw [H2.out]
  go_upto_region 4 with fail
  rw [H3.out]
  go_upto_region 5 with fail
  rw [H4.out]
  go_upto_region 6 with fail
  rw [H5.out]
  go_upto_region 7 with fail
  rw [H6.out]
  go_wp2
  go_ret
  exact ⟨ret_int (by rw [H7.out, HP.out.1]), rfl⟩

set_option maxHeartbeats 400000 in
theorem count_any (s : Nat) (n : Int) (w : World) (hs : s < 18446744073709551616) :
    Calls Try.prog 35 #[.int .u64 (s : Int), .int .i64 n] w fun e w' => e = .returned (.int .i64 (Q.countN s n : Nat)) ∧ w = w' := by
  have hm : s % 2 ^ Q.clampN n < 18446744073709551616 := Nat.lt_of_le_of_lt (Nat.mod_le _ _) hs
  have H : Hid (Q.cnt (s % 2 ^ Q.clampN n) 64 = Q.countN s n) := by
    show _ = _
    have hc := Q.clamp_le n
    have h1 := Q.cnt_zero_of_high (s % 2 ^ Q.clampN n) (Q.clampN n) (64 - Q.clampN n) (Nat.mod_lt _ (Nat.pow_pos (by omega)))
    rw [show Q.clampN n + (64 - Q.clampN n) = 64 from by omega] at h1
    rw [h1, Q.cnt_mod _ _ _ (Nat.le_refl _)]
    rfl
  go_enter Try.func35, Try.ntmps35
  go_wp2_with (first
    | (go_at_call 63; refine (only_any _ _ _ hs).mono ?_; rintro e w' ⟨rfl, rfl⟩)
    | (go_at_call 62; refine (ones_any _ _ hm).mono ?_; rintro e w' ⟨rfl, rfl⟩))
  go_ret
  exact ⟨ret_int (by rw [H.out]), rfl⟩

set_option maxHeartbeats 400000 in
theorem maj_any (s : Nat) (n : Int) (w : World) (hs : s < 18446744073709551616) :
    Calls Try.prog 33 #[.int .u64 (s : Int), .int .i64 n] w fun e w' => e = .returned (.bool (Q.majB s n)) ∧ w = w' := by
  by_cases h1 : 1 ≤ n
  · have H : Hid (Q.majB s n = decide (Q.leastN n ≤ Q.countN s n)) := by show _ = _; unfold Q.majB; simp [h1]
    go_enter Try.func33, Try.ntmps33
    go_wp2_with (first
      | (go_at_call 35; refine (count_any _ _ _ hs).mono ?_; rintro e w' ⟨rfl, rfl⟩)
      | (go_at_call 42; refine (least_any _ _).mono ?_; rintro e w' ⟨rfl, rfl⟩))
    go_ret
    exact ⟨ret_bool (by rw [H.out]), rfl⟩
  · have H : Hid (Q.majB s n = false) := by show _ = _; unfold Q.majB; simp; omega
    go_enter Try.func33, Try.ntmps33
    go_wp2
    go_ret
    exact ⟨ret_bool (by rw [H.out]), rfl⟩

/-! ### the reference -/
set_option maxHeartbeats 400000 in
theorem rhas_any (s : Nat) (n : Int) (w : World) (hs : s < 18446744073709551616) :
    Calls Try.prog 39 #[.int .u64 (s : Int), .int .i64 n] w fun e w' => e = .returned (.bool (Q.hasB s n)) ∧ w = w' := by
  go_enter Try.func39, Try.ntmps39
  go_wp2
  go_loop [0, 5] (fun x i => ∃ k y : Nat, k ≤ 64 ∧ i = .int .i64 k ∧ x = .int .u64 (y : Int) ∧ y < 18446744073709551616 ∧ Hid (y = s / 2 ^ k) ∧ (0 ≤ n → (k : Int) ≤ n ∨ 63 < n)) (fun _ i => 64 - (intOf i).toNat)
  case atStart => exact ⟨0, s, by omega, rfl, rfl, hs, by show _ = _; simp, by omega⟩
  case round =>
    obtain ⟨k, y, hk, rfl, rfl, hy, H, hn⟩ := hrel
    by_cases hlt : k < 64
    · by_cases he : n = (k : Int)
      · subst he
        go_wp2
        go_ret
        refine ⟨ret_bool ?_, rfl⟩
        have h1 : ((y : Int) % 2 == 1) = decide (y % 2 = 1) := by
          by_cases h : y % 2 = 1
          · have : (y : Int) % 2 = 1 := by omega
            simp [h, this]
          · have : ¬ (y : Int) % 2 = 1 := by omega
            simp [h, this]
        rw [h1, H.out, Q.shr_bit]
        unfold Q.hasB
        cases hbb : s.testBit k <;> simp [hbb] <;> omega
      · have hne : ((k : Int) == n) = false := by simp; omega
        go_wp2
        go_round
        case rel =>
          refine ⟨k + 1, y / 2, by omega, by go_num, int_of (by first | omega | (rw [IntKind.wrap_u64]; omega)), by omega, ?_, by omega⟩
          show _ = _
          rw [H.out, Nat.pow_succ, Nat.div_div_eq_div_mul]
        case measure => simp [intOf]; omega
    · have HB : Hid (Q.hasB s n = false) := by show _ = _; unfold Q.hasB; simp; intro _ _; omega
      go_wp2
      go_ret
      exact ⟨ret_bool (by rw [HB.out]), rfl⟩

set_option maxHeartbeats 400000 in
theorem radd_any (s : Nat) (n : Int) (w : World) (hs : s < 18446744073709551616) :
    Calls Try.prog 37 #[.int .u64 (s : Int), .int .i64 n] w fun e w' => e = .returned (.int .u64 (Q.addN s n : Nat)) ∧ w = w' := by
  by_cases h0 : 0 ≤ n ∧ n ≤ 63
  · obtain ⟨h0, h1⟩ := h0
    cases hb : Q.hasB s n
    · have hbit : s.testBit n.toNat = false := by
        unfold Q.hasB at hb
        simpa [h0, h1] using hb
      have hsum : Q.addN s n = s + 2 ^ n.toNat := by
        unfold Q.addN
        rw [if_pos ⟨h0, h1⟩]
        exact Q.or_add s _ hbit
      have H := Lib.hid hsum
      have hlt := Q.add_lt s n hs
      rw [hsum] at hlt
      have HL := Lib.hid hlt
      have HB := Lib.hid hb
      clear hb hbit hsum hlt
      go_enter Try.func37, Try.ntmps37
      go_wp2_with (go_at_call 39; refine (rhas_any _ _ _ hs).mono ?_; rintro e w' ⟨rfl, rfl⟩; rw [HB.out])
      go_loop [5, 6] (fun x i => ∃ k y : Nat, (k : Int) ≤ n ∧ i = .int .i64 k ∧ x = .int .u64 (y : Int) ∧ Hid (y = 2 ^ k)) (fun _ i => n.toNat - (intOf i).toNat)
      case atStart => exact ⟨0, 1, by omega, rfl, rfl, rfl⟩
      case round =>
        obtain ⟨k, y, hk, rfl, rfl, HY⟩ := hrel
        by_cases hlt : (k : Int) < n
        · have hy : y * 2 < 18446744073709551616 := by
            have := two_pow_lt (k := k + 1) (by omega)
            rw [HY.out, ← Nat.pow_succ]; exact this
          go_wp2
          go_round
          case rel =>
            refine ⟨k + 1, y * 2, by omega, by go_num, ?_, ?_⟩
            · first | exact int_of (by omega) | (refine int_of ?_; rw [IntKind.wrap_u64]; omega)
            · show _ = _
              rw [HY.out, Nat.pow_succ]
          case measure => simp [intOf]; omega
        · have hy : s + y < 18446744073709551616 := by
            have := HL.out
            rw [HY.out, show k = n.toNat from by omega]; exact this
          go_wp2
          go_ret
          refine ⟨ret_int ?_, rfl⟩
          have e : (s : Int) + (y : Int) = ((Q.addN s n : Nat) : Int) := by
            rw [H.out, HY.out, show k = n.toNat from by omega]; omega
          first | exact e | (rw [IntKind.wrap_u64, e]; have := Q.add_lt s n hs; omega)
    · have hbit : s.testBit n.toNat = true := by
        unfold Q.hasB at hb
        simpa [h0, h1] using hb
      have hsum : Q.addN s n = s := by
        unfold Q.addN
        rw [if_pos ⟨h0, h1⟩]
        exact Q.or_same s _ hbit
      have H := Lib.hid hsum
      have HB := Lib.hid hb
      clear hb hbit hsum
      go_enter Try.func37, Try.ntmps37
      go_wp2_with (go_at_call 39; refine (rhas_any _ _ _ hs).mono ?_; rintro e w' ⟨rfl, rfl⟩; rw [HB.out])
      go_ret
      exact ⟨ret_int (by rw [H.out]), rfl⟩
  · have H : Hid (Q.addN s n = s) := by show _ = _; unfold Q.addN; rw [if_neg (by omega)]
    rcases (by omega : n < 0 ∨ 63 < n) with h | h
    · go_enter Try.func37, Try.ntmps37
      go_wp2
      go_ret
      exact ⟨ret_int (by rw [H.out]), rfl⟩
    · go_enter Try.func37, Try.ntmps37
      go_wp2
      go_ret
      exact ⟨ret_int (by rw [H.out]), rfl⟩

set_option maxHeartbeats 400000 in
theorem rleast_any (n : Int) (w : World) (hn : -9223372036854775808 ≤ n) (hn2 : n ≤ 9223372036854775807) :
    Calls Try.prog 43 #[.int .i64 n] w fun e w' => e = .returned (.int .i64 (Q.leastN n : Nat)) ∧ w = w' := by
  go_enter Try.func43, Try.ntmps43
  go_wp2
  go_loop [3] (fun i => ∃ k : Nat, 1 ≤ k ∧ k ≤ 33 ∧ i = .int .i64 k ∧ (k = 1 ∨ 2 * ((k : Int) - 1) ≤ n)) (fun i => 33 - (intOf i).toNat)
  case atStart => exact ⟨1, by omega, by omega, rfl, by omega⟩
  case round =>
    obtain ⟨k, h1, hk, rfl, hn⟩ := hrel
    by_cases hlt : k < 33
    · by_cases h2 : 2 * (k : Int) ≤ n
      · go_wp2
        go_round
        case rel => exact ⟨k + 1, by omega, by omega, by go_num, by omega⟩
        case measure => simp [intOf]; omega
      · go_wp2
        go_ret
        exact ⟨ret_int (by unfold Q.leastN Q.clampN; omega), rfl⟩
    · go_wp2
      go_ret
      exact ⟨ret_int (by unfold Q.leastN Q.clampN; omega), rfl⟩
end Go.Proofs.Ytfpblaggnehnoaa
