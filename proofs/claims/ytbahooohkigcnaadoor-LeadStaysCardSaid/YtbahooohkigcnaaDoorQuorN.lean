/- The walks of layer 5's functions: what each returns, and that the world stays as it was. Conditions: a set is a uint64. -/
import Derived.Test.YtbahooohkigcnaaDoorBase
import Derived.Test.YtbahooohkigcnaaDoorQuorumPlain
namespace Go.Proofs.YtbahooohkigcnaaDoor
set_option maxRecDepth 20000
open Go.RowKit

theorem u64_and_nat' (a b : Nat) (ha : a < 18446744073709551616) (hb : b < 18446744073709551616) : bits .and .u64 (a : Int) (b : Int) = ((a &&& b : Nat) : Int) := u64_and_nat a b ha hb

theorem wrap_u64_nat {a : Nat} (h : a < 18446744073709551616) : IntKind.u64.wrap (a : Int) = (a : Int) := by rw [IntKind.wrap_u64]; omega
theorem two_pow_lt {k : Nat} (h : k ≤ 63) : (2 ^ k : Nat) < 18446744073709551616 := by
  have : (2 ^ k : Nat) < 2 ^ 64 := Nat.pow_lt_pow_right (by omega) (by omega)
  omega
theorem has_test (s : Nat) (n : Int) (hs : s < 18446744073709551616) (h0 : 0 ≤ n) (h1 : n ≤ 63) : (bits BinOp.and IntKind.u64 ((s : Int) / 2 ^ n.toNat) 1 == 1) = Q.hasB s n := by
  have e : ((s : Int) / 2 ^ n.toNat) = ((s / 2 ^ n.toNat : Nat) : Int) := by simp
  have hl : s / 2 ^ n.toNat < 18446744073709551616 := Nat.lt_of_le_of_lt (Nat.div_le_self _ _) hs
  have e2 := u64_and_nat (s / 2 ^ n.toNat) 1 hl (by omega)
  rw [e, show (1 : Int) = ((1 : Nat) : Int) from rfl, e2, Q.one_land, Q.shr_bit]
  unfold Q.hasB
  cases s.testBit n.toNat <;> simp <;> omega
theorem only_val (s : Nat) (n : Int) (hs : s < 18446744073709551616) (h0 : 0 ≤ n) (h1 : n < 64) :
    bits BinOp.and IntKind.u64 (s : Int) (IntKind.u64.wrap (IntKind.u64.wrap (2 ^ n.toNat) - 1)) = ((s % 2 ^ Q.clampN n : Nat) : Int) := by
  have e : (2 : Int) ^ n.toNat = ((2 ^ n.toNat : Nat) : Int) := by simp
  have hc : Q.clampN n = n.toNat := by unfold Q.clampN; omega
  have hp := two_pow_lt (k := n.toNat) (by omega)
  have hp0 : 0 < (2 ^ n.toNat : Nat) := Nat.pow_pos (by omega)
  have e3 : ((2 ^ n.toNat : Nat) : Int) - 1 = ((2 ^ n.toNat - 1 : Nat) : Int) := by omega
  rw [e, wrap_u64_nat hp, e3, wrap_u64_nat (by omega), u64_and_nat _ _ hs (by omega), Nat.and_two_pow_sub_one_eq_mod, hc]

set_option maxHeartbeats 400000 in
theorem least_any (n : Int) (w : World) :
    Calls Tryd.prog 114 #[.int .i64 n] w fun e w' => e = .returned (.int .i64 (Q.leastN n : Nat)) ∧ w = w' := by
  go_enter Tryd.func114, Tryd.ntmps114
  go_wp2
  all_goals (go_ret; exact ⟨ret_int (by unfold Q.leastN Q.clampN; first | omega | (split at * <;> omega)), rfl⟩)

set_option maxHeartbeats 400000 in
theorem add_any (s : Nat) (n : Int) (w : World) (hs : s < 18446744073709551616) :
    Calls Tryd.prog 81 #[.int .u64 (s : Int), .int .i64 n] w fun e w' => e = .returned (.int .u64 (Q.addN s n : Nat)) ∧ w = w' := by
  by_cases h0 : 0 ≤ n
  · by_cases h1 : n ≤ 63
    · have h2 : (2 ^ n.toNat : Nat) < 18446744073709551616 := by
        have : (2 ^ n.toNat : Nat) < 2 ^ 64 := Nat.pow_lt_pow_right (by omega) (by omega)
        omega
      have H : Hid (bits BinOp.or IntKind.u64 (s : Int) (IntKind.u64.wrap (2 ^ n.toNat)) = (Q.addN s n : Nat)) := by
        have e : (2 : Int) ^ n.toNat = ((2 ^ n.toNat : Nat) : Int) := by simp
        have e2 : IntKind.u64.wrap ((2 ^ n.toNat : Nat) : Int) = ((2 ^ n.toNat : Nat) : Int) := wrap_u64_nat h2
        show _ = _
        rw [e, e2, u64_or_nat _ _ hs h2]
        unfold Q.addN
        rw [if_pos ⟨h0, h1⟩]
      go_enter Tryd.func81, Tryd.ntmps81
      go_wp2
      go_ret
      exact ⟨ret_int H.out, rfl⟩
    · have H : Hid (Q.addN s n = s) := by show _ = _; unfold Q.addN; rw [if_neg (by omega)]
      go_enter Tryd.func81, Tryd.ntmps81
      go_wp2
      go_ret
      exact ⟨ret_int (by rw [H.out]), rfl⟩
  · have H : Hid (Q.addN s n = s) := by show _ = _; unfold Q.addN; rw [if_neg (by omega)]
    go_enter Tryd.func81, Tryd.ntmps81
    go_wp2
    go_ret
    exact ⟨ret_int (by rw [H.out]), rfl⟩

set_option maxHeartbeats 400000 in
theorem has_any (s : Nat) (n : Int) (w : World) (hs : s < 18446744073709551616) :
    Calls Tryd.prog 80 #[.int .u64 (s : Int), .int .i64 n] w fun e w' => e = .returned (.bool (Q.hasB s n)) ∧ w = w' := by
  by_cases h0 : 0 ≤ n
  · by_cases h1 : n ≤ 63
    · go_enter Tryd.func80, Tryd.ntmps80
      go_wp2
      go_ret
      exact ⟨ret_bool (has_test s n hs h0 h1), rfl⟩
    · have H : Hid (Q.hasB s n = false) := by show _ = _; unfold Q.hasB; simp; omega
      go_enter Tryd.func80, Tryd.ntmps80
      go_wp2
      go_ret
      exact ⟨ret_bool (by rw [H.out]), rfl⟩
  · have H : Hid (Q.hasB s n = false) := by show _ = _; unfold Q.hasB; simp; omega
    go_enter Tryd.func80, Tryd.ntmps80
    go_wp2
    go_ret
    exact ⟨ret_bool (by rw [H.out]), rfl⟩

set_option maxHeartbeats 400000 in
theorem only_any (s : Nat) (n : Int) (w : World) (hs : s < 18446744073709551616) :
    Calls Tryd.prog 135 #[.int .u64 (s : Int), .int .i64 n] w fun e w' => e = .returned (.int .u64 ((s % 2 ^ Q.clampN n : Nat))) ∧ w = w' := by
  by_cases h0 : 64 ≤ n
  · have H : Hid (s % 2 ^ Q.clampN n = s) := by
      show _ = _
      have : Q.clampN n = 64 := by unfold Q.clampN; omega
      rw [this]; exact Nat.mod_eq_of_lt (by omega)
    go_enter Tryd.func135, Tryd.ntmps135
    go_wp2
    go_ret
    exact ⟨ret_int (by rw [H.out]), rfl⟩
  · by_cases h1 : 0 ≤ n
    · go_enter Tryd.func135, Tryd.ntmps135
      go_wp2
      go_ret
      exact ⟨ret_int (only_val s n hs h1 (by omega)), rfl⟩
    · go_enter Tryd.func135, Tryd.ntmps135
      go_wp2
      go_ret
      refine ⟨ret_int ?_, rfl⟩
      have hc : Q.clampN n = 0 := by unfold Q.clampN; omega
      rw [hc, show (0 : Int) = ((0 : Nat) : Int) from rfl, u64_and_nat _ _ hs (by omega)]
      simp

theorem st1 (s : Nat) (hs : s < 18446744073709551616) : IntKind.u64.wrap (bits BinOp.and IntKind.u64 ((s : Int) / 2) 6148914691236517205 + bits BinOp.and IntKind.u64 (s : Int) 6148914691236517205) = ((Q.p1 s : Nat) : Int) := by
  have e1 := u64_and_nat (s / 2) 6148914691236517205 (by omega) (by omega)
  have e2 := u64_and_nat s 6148914691236517205 hs (by omega)
  simp only [Int.natCast_ediv, Int.cast_ofNat_Int] at e1 e2
  rw [e1, e2, ← Int.natCast_add, wrap_u64_nat]
  · rfl
  · have h1 : (s / 2 &&& 6148914691236517205) ≤ 6148914691236517205 := Nat.and_le_right
    have h2 : (s &&& 6148914691236517205) ≤ 6148914691236517205 := Nat.and_le_right
    omega
theorem st2 (s : Nat) (hs : s < 18446744073709551616) : IntKind.u64.wrap (bits BinOp.and IntKind.u64 ((s : Int) / 4) 3689348814741910323 + bits BinOp.and IntKind.u64 (s : Int) 3689348814741910323) = ((Q.p2 s : Nat) : Int) := by
  have e1 := u64_and_nat (s / 4) 3689348814741910323 (by omega) (by omega)
  have e2 := u64_and_nat s 3689348814741910323 hs (by omega)
  simp only [Int.natCast_ediv, Int.cast_ofNat_Int] at e1 e2
  rw [e1, e2, ← Int.natCast_add, wrap_u64_nat]
  · rfl
  · have h1 : (s / 4 &&& 3689348814741910323) ≤ 3689348814741910323 := Nat.and_le_right
    have h2 : (s &&& 3689348814741910323) ≤ 3689348814741910323 := Nat.and_le_right
    omega
theorem st3 (s : Nat) (hs : s < 8446744073709551616) : bits BinOp.and IntKind.u64 (IntKind.u64.wrap ((s : Int) / 16 + (s : Int))) 1085102592571150095 = ((Q.p3 s : Nat) : Int) := by
  have e0 : (s : Int) / 16 + (s : Int) = ((s / 16 + s : Nat) : Int) := by omega
  rw [e0, wrap_u64_nat (by omega)]
  exact u64_and_nat (s / 16 + s) 1085102592571150095 (by omega) (by omega)
theorem i64_and_nat (a b : Nat) (ha : a < 9223372036854775808) (hb : b < 9223372036854775808) : bits .and .i64 (a : Int) (b : Int) = ((a &&& b : Nat) : Int) := by
  have hx : a &&& b < 2 ^ 63 := Nat.and_lt_two_pow _ (by omega)
  have e : ∀ c : Nat, c < 9223372036854775808 → (BitVec.ofInt 64 (c : Int)).toNat = c := fun c hc => by
    rw [BitVec.ofInt_natCast, BitVec.toNat_ofNat]; exact Nat.mod_eq_of_lt (by omega)
  show IntKind.i64.wrap ((BitVec.ofInt 64 (a : Int) &&& BitVec.ofInt 64 (b : Int)).toNat : Int) = _
  rw [BitVec.toNat_and, e a ha, e b hb, IntKind.wrap_i64]
  omega
theorem st7 (s : Nat) (hs : s < 9223372036854775808) : bits BinOp.and IntKind.i64 (wrap64 (s : Int)) 127 = ((s % 128 : Nat) : Int) := by
  have e : wrap64 (s : Int) = (s : Int) := by unfold wrap64; omega
  rw [e]
  have := i64_and_nat s 127 hs (by omega)
  rw [show (127 : Nat) = 2 ^ 7 - 1 from rfl, Nat.and_two_pow_sub_one_eq_mod] at this
  exact this

theorem p1_lt (s : Nat) : Q.p1 s < 18446744073709551616 := by
  have h1 : (s / 2 &&& 6148914691236517205) ≤ 6148914691236517205 := Nat.and_le_right
  have h2 : (s &&& 6148914691236517205) ≤ 6148914691236517205 := Nat.and_le_right
  unfold Q.p1; omega
theorem p2_lt (s : Nat) : Q.p2 s < 8446744073709551616 := by
  have h1 : (s / 4 &&& 3689348814741910323) ≤ 3689348814741910323 := Nat.and_le_right
  have h2 : (s &&& 3689348814741910323) ≤ 3689348814741910323 := Nat.and_le_right
  unfold Q.p2; omega
theorem st4 (s : Nat) (h : Q.p4 s < 18446744073709551616) : IntKind.u64.wrap ((s : Int) + (s : Int) / 256) = ((Q.p4 s : Nat) : Int) := by
  have e : (s : Int) + (s : Int) / 256 = ((Q.p4 s : Nat) : Int) := by unfold Q.p4; omega
  rw [e, wrap_u64_nat h]
theorem st5 (s : Nat) (h : Q.p5 s < 18446744073709551616) : IntKind.u64.wrap ((s : Int) + (s : Int) / 65536) = ((Q.p5 s : Nat) : Int) := by
  have e : (s : Int) + (s : Int) / 65536 = ((Q.p5 s : Nat) : Int) := by unfold Q.p5; omega
  rw [e, wrap_u64_nat h]
theorem st6 (s : Nat) (h : Q.p6 s < 18446744073709551616) : IntKind.u64.wrap ((s : Int) + (s : Int) / 4294967296) = ((Q.p6 s : Nat) : Int) := by
  have e : (s : Int) + (s : Int) / 4294967296 = ((Q.p6 s : Nat) : Int) := by unfold Q.p6; omega
  rw [e, wrap_u64_nat h]

set_option maxHeartbeats 800000 in
theorem ones_any (s : Nat) (w : World) (hs : s < 18446744073709551616) :
    Calls Tryd.prog 134 #[.int .u64 (s : Int)] w fun e w' => e = .returned (.int .i64 (Q.cnt s 64 : Nat)) ∧ w = w' := by
  have H1 := Lib.hid (st1 s hs)
  have H2 := Lib.hid (st2 (Q.p1 s) (p1_lt s))
  have H3 := Lib.hid (st3 (Q.p2 (Q.p1 s)) (p2_lt _))
  have HP := Lib.hid (Q.p654 s)
  have H4 := Lib.hid (st4 _ HP.out.2.1)
  have H5 := Lib.hid (st5 _ HP.out.2.2.1)
  have H6 := Lib.hid (st6 (Q.p5 (Q.p4 (Q.p3 (Q.p2 (Q.p1 s))))) (Nat.lt_trans HP.out.2.2.2 (by omega)))
  have H7 := Lib.hid (st7 _ HP.out.2.2.2)
  clear hs
  go_enter Tryd.func134, Tryd.ntmps134
  go_upto_region 2 with fail
  rw [H1.out]
  go_upto_region 3 with fail
  rw [H2.out]
  go_upto_region 4 with fail
  rw [H3.out]
  go_upto_region 5 with fail
  rw [H4.out]
  go_upto_region 6 with fail
  rw [H5.out]
  go_upto_region 7 with fail
  rw [H6.out]
  go_wp2
  go_ret
  exact ⟨ret_int (by rw [H7.out, HP.out.1]), rfl⟩

set_option maxHeartbeats 400000 in
theorem count_any (s : Nat) (n : Int) (w : World) (hs : s < 18446744073709551616) :
    Calls Tryd.prog 113 #[.int .u64 (s : Int), .int .i64 n] w fun e w' => e = .returned (.int .i64 (Q.countN s n : Nat)) ∧ w = w' := by
  have hm : s % 2 ^ Q.clampN n < 18446744073709551616 := Nat.lt_of_le_of_lt (Nat.mod_le _ _) hs
  have H : Hid (Q.cnt (s % 2 ^ Q.clampN n) 64 = Q.countN s n) := by
    show _ = _
    have hc := Q.clamp_le n
    have h1 := Q.cnt_zero_of_high (s % 2 ^ Q.clampN n) (Q.clampN n) (64 - Q.clampN n) (Nat.mod_lt _ (Nat.pow_pos (by omega)))
    rw [show Q.clampN n + (64 - Q.clampN n) = 64 from by omega] at h1
    rw [h1, Q.cnt_mod _ _ _ (Nat.le_refl _)]
    rfl
  go_enter Tryd.func113, Tryd.ntmps113
  go_wp2_with (first
    | (go_at_call 135; refine (only_any _ _ _ hs).mono ?_; rintro e w' ⟨rfl, rfl⟩)
    | (go_at_call 134; refine (ones_any _ _ hm).mono ?_; rintro e w' ⟨rfl, rfl⟩))
  go_ret
  exact ⟨ret_int (by rw [H.out]), rfl⟩

set_option maxHeartbeats 400000 in
theorem maj_any (s : Nat) (n : Int) (w : World) (hs : s < 18446744073709551616) :
    Calls Tryd.prog 82 #[.int .u64 (s : Int), .int .i64 n] w fun e w' => e = .returned (.bool (Q.majB s n)) ∧ w = w' := by
  by_cases h1 : 1 ≤ n
  · have H : Hid (Q.majB s n = decide (Q.leastN n ≤ Q.countN s n)) := by show _ = _; unfold Q.majB; simp [h1]
    go_enter Tryd.func82, Tryd.ntmps82
    go_wp2_with (first
      | (go_at_call 113; refine (count_any _ _ _ hs).mono ?_; rintro e w' ⟨rfl, rfl⟩)
      | (go_at_call 114; refine (least_any _ _).mono ?_; rintro e w' ⟨rfl, rfl⟩))
    go_ret
    exact ⟨ret_bool (by rw [H.out]), rfl⟩
  · have H : Hid (Q.majB s n = false) := by show _ = _; unfold Q.majB; simp; omega
    go_enter Tryd.func82, Tryd.ntmps82
    go_wp2
    go_ret
    exact ⟨ret_bool (by rw [H.out]), rfl⟩
end Go.Proofs.YtbahooohkigcnaaDoor
