/- The walks of the laws QuorumHalves, QuorumAdds and QuorumGrows. -/
import Derived.Test.YtfpblaggnehnoaaQuorumWalks
namespace Go.Proofs.Ytfpblaggnehnoaa
open Go.RowKit

set_option maxHeartbeats 400000 in
theorem q_awake (w : World) : Calls Try.prog 34 #[] w fun e w' => e = .returned (.bool true) ∧ w = w' := by
  have H1 : Hid (Q.majB 5 3 = true) := by show _ = _; decide
  have H2 : Hid (((Q.leastN 5 : Nat) : Int) = 3) := by show _ = _; decide
  go_enter Try.func34, Try.ntmps34
  go_wp2_with (first
    | (go_at_call 33; refine (maj_any 5 3 _ (by omega)).mono ?_; rintro e w' ⟨rfl, rfl⟩; rw [H1.out])
    | (go_at_call 42; refine (least_any 5 _).mono ?_; rintro e w' ⟨rfl, rfl⟩; rw [H2.out]))
  go_ret
  exact ⟨rfl, rfl⟩

theorem not_u64 (a : Nat) (ha : a < 18446744073709551616) : ∃ c : Nat, bits BinOp.xor IntKind.u64 IntKind.u64.max (a : Int) = (c : Int) ∧ c < 18446744073709551616 ∧ ∀ i, i < 64 → c.testBit i = !a.testBit i := by
  refine ⟨18446744073709551615 ^^^ a, ?_, ?_, fun i hi => ?_⟩
  · have := u64_xor_nat 18446744073709551615 a (by omega) ha
    rw [← this]; rfl
  · have := Nat.xor_lt_two_pow (x := 18446744073709551615) (y := a) (n := 64) (by omega) (by omega)
    omega
  · rw [Nat.testBit_xor, show (18446744073709551615 : Nat) = 2 ^ 64 - 1 from rfl, Nat.testBit_two_pow_sub_one]
    simp [hi]

theorem halves_plain (a c : Nat) (k : Int) (h1 : 1 ≤ k) (h2 : k ≤ 64) (hc : ∀ i, i < 64 → c.testBit i = !a.testBit i) :
    (Q.countN a k : Int) + (Q.countN c k : Int) = k ∧ ¬ (Q.majB a k = true ∧ Q.majB c k = true) ∧ (k % 2 = 1 → Q.majB a k = true ∨ Q.majB c k = true) := by
  have hk : Q.clampN k = k.toNat := by unfold Q.clampN; omega
  have h := Q.cnt_flip a c (Q.clampN k) (fun i hi => hc i (by omega))
  unfold Q.majB Q.leastN Q.countN
  generalize Q.cnt a (Q.clampN k) = x at *
  generalize Q.cnt c (Q.clampN k) = y at *
  simp only [Bool.and_eq_true, decide_eq_true_eq]
  omega

set_option maxHeartbeats 400000 in
theorem halves (a b : Nat) (w : World) (ha : a < 18446744073709551616) (hb : b < 256) :
    Calls Try.prog 8 #[.int .u64 (a : Int), .int .u8 (b : Int)] w fun e w' => e = .returned (.bool true) ∧ w = w' := by
  obtain ⟨c, hx, hc, hbit⟩ := not_u64 a ha
  have HX := Lib.hid hx
  obtain ⟨k, hk⟩ : ∃ k : Int, k = 1 + (b : Int) % 64 := ⟨_, rfl⟩
  have hk1 : 1 ≤ k := by omega
  have hk2 : k ≤ 64 := by omega
  have HP := Lib.hid (halves_plain a c k hk1 hk2 hbit)
  have HK := Lib.hid hk.symm
  have HC : Hid (((Q.countN a k : Int) + (Q.countN c k : Int) == k) = true) := by show _ = _; simpa using HP.out.1
  have hca := Q.count_le a k
  have hcc := Q.count_le c k
  clear hx hk hbit
  cases hA : Q.majB a k <;> cases hB : Q.majB c k <;> cases hO : (k % 2 == 1)
  all_goals try (exfalso; have hbad := HP.out.2.1; simp [hA, hB] at hbad; done)
  all_goals try (exfalso; have hbad := HP.out.2.2; simp [hA, hB] at hbad hO; omega)
  all_goals
    have HA := Lib.hid hA
    have HB := Lib.hid hB
    clear hA hB
    go_enter Try.func8, Try.ntmps8
    go_wp2_with fail
    rw [HK.out]
    refine (maj_any _ _ _ ha).mono ?_
    rintro e w' ⟨rfl, rfl⟩
    rw [HA.out]
    go_wp2_with fail
    rw [HX.out]
    refine (maj_any _ _ _ hc).mono ?_
    rintro e w' ⟨rfl, rfl⟩
    rw [HB.out]
    go_wp2_with (first | (go_at_call 34; refine (q_awake _).mono ?_; rintro e w' ⟨rfl, rfl⟩))
    refine (count_any _ _ _ ha).mono ?_
    rintro e w' ⟨rfl, rfl⟩
    go_wp2_with fail
    rw [HX.out]
    refine (count_any _ _ _ hc).mono ?_
    rintro e w' ⟨rfl, rfl⟩
    go_wp2
    go_ret
    exact ⟨ret_bool HC.out, rfl⟩

theorem quorumHalves_walk (W : World) (v0 v1 : Value) (h0 : Arg W 43 v0) (h1 : Arg W 5 v1) :
    Calls Try.prog 8 #[v0, v1] W fun e W' => e = .returned (.bool true) ∧ Below W.heap.size W W' := by
  obtain ⟨a, rfl, ha⟩ := h0.u64 Try.underlying43
  obtain ⟨b, rfl, hb⟩ := h1.u8 Try.underlying5
  exact (halves a b W ha hb).mono fun e w' ⟨he, hw⟩ => ⟨he, hw ▸ Below.refl _ _⟩

/-! ### QuorumAdds -/
theorem has_add (a : Nat) (i k : Int) : Q.hasB (Q.addN a i) k = if k = i then decide (0 ≤ i ∧ i ≤ 63) else Q.hasB a k := by
  unfold Q.hasB Q.addN
  by_cases hi : 0 ≤ i ∧ i ≤ 63
  · rw [if_pos hi]
    by_cases hk : 0 ≤ k ∧ k ≤ 63
    · simp only [hk.1, hk.2, decide_true, Bool.true_and, Nat.testBit_or, Nat.testBit_two_pow]
      by_cases e : k = i
      · subst e; simp [hk]
      · have : ¬ i.toNat = k.toNat := by omega
        simp [this, e]
    · have : (decide (0 ≤ k) && decide (k ≤ 63)) = false := by simp; omega
      rw [this]
      by_cases e : k = i
      · subst e; exact absurd hi hk
      · simp [e]
  · rw [if_neg hi]
    by_cases e : k = i
    · subst e
      have : (decide (0 ≤ k) && decide (k ≤ 63)) = false := by simp; omega
      rw [this, if_pos rfl]; simp [hi]
    · rw [if_neg e]

set_option maxHeartbeats 800000 in
theorem adds (a : Nat) (i k : Int) (w : World) (ha : a < 18446744073709551616) :
    Calls Try.prog 9 #[.int .u64 (a : Int), .int .i64 i, .int .i64 k] w fun e w' => e = .returned (.bool true) ∧ w = w' := by
  have hx := Q.add_lt a i ha
  have hI : Q.hasB (Q.addN a i) i = (decide (0 ≤ i) && decide (i ≤ 63)) := by rw [has_add, if_pos rfl]; simp
  have hK := has_add a i k
  generalize hX : Q.addN a i = x at *
  have HX := Lib.hid hX
  clear hX
  cases hki : (k == i) <;> cases h0 : decide (0 ≤ i) <;> cases h63 : decide (i ≤ 63)
  all_goals
    rw [h0, h63] at hI
    simp at hI
    have HI := Lib.hid hI
    have HK : Hid (k ≠ i → Q.hasB x k = Q.hasB a k) := fun h => by rw [if_neg h] at hK; exact hK
    clear hI hK
    go_enter Try.func9, Try.ntmps9
    go_wp2_with fail
    refine (add_any _ _ _ ha).mono ?_
    rintro e w' ⟨rfl, rfl⟩
    rw [HX.out]
    go_wp2_with fail
    refine (radd_any _ _ _ ha).mono ?_
    rintro e w' ⟨rfl, rfl⟩
    rw [HX.out]
    go_wp2_with fail
    refine (has_any _ _ _ ha).mono ?_
    rintro e w' ⟨rfl, rfl⟩
    go_wp2_with fail
    refine (rhas_any _ _ _ ha).mono ?_
    rintro e w' ⟨rfl, rfl⟩
    go_wp2_with (first | (go_at_call 34; refine (q_awake _).mono ?_; rintro e w' ⟨rfl, rfl⟩))
    refine (has_any _ _ _ hx).mono ?_
    rintro e w' ⟨rfl, rfl⟩
    rw [HI.out]
    go_wp2_with fail
  all_goals first
    | (go_ret; exact ⟨rfl, rfl⟩)
    | (have hne : k ≠ i := by simpa using hki
       refine (has_any _ _ _ hx).mono ?_
       rintro e w' ⟨rfl, rfl⟩
       rw [HK.out hne]
       go_wp2_with fail
       refine (has_any _ _ _ ha).mono ?_
       rintro e w' ⟨rfl, rfl⟩
       go_wp2
       go_ret
       exact ⟨rfl, rfl⟩)

theorem quorumAdds_walk (W : World) (v0 v1 v2 : Value) (h0 : Arg W 43 v0) (h1 : Arg W 3 v1) (h2 : Arg W 3 v2) :
    Calls Try.prog 9 #[v0, v1, v2] W fun e W' => e = .returned (.bool true) ∧ Below W.heap.size W W' := by
  obtain ⟨a, rfl, ha⟩ := h0.u64 Try.underlying43
  obtain ⟨i, rfl, _, _⟩ := h1.i64 Try.underlying3
  obtain ⟨k, rfl, _, _⟩ := h2.i64 Try.underlying3
  exact (adds a i k W ha).mono fun e w' ⟨he, hw⟩ => ⟨he, hw ▸ Below.refl _ _⟩

/-! ### QuorumGrows -/
theorem grows_plain (a : Nat) (k i : Int) (h1 : 1 ≤ k) (h2 : k ≤ 20) :
    (Q.countN (Q.addN a i) k : Int) = (Q.countN a k : Int) + (if (0 ≤ i ∧ i < k) ∧ Q.hasB a i = false then 1 else 0) ∧ (Q.majB a k = true → Q.majB (Q.addN a i) k = true) := by
  have hk : Q.clampN k = k.toNat := by unfold Q.clampN; omega
  have h : Q.countN (Q.addN a i) k = Q.countN a k + (if (0 ≤ i ∧ i < k) ∧ Q.hasB a i = false then 1 else 0) := by
    unfold Q.countN Q.addN
    by_cases hi : 0 ≤ i ∧ i ≤ 63
    · rw [if_pos hi, Q.cnt_set]
      have hb : Q.hasB a i = a.testBit i.toNat := by unfold Q.hasB; simp [hi]
      rw [hb]
      congr 1
      by_cases hlt : i < k
      · have : i.toNat < Q.clampN k := by omega
        simp [hlt, this, hi.1]
      · have : ¬ i.toNat < Q.clampN k := by omega
        simp [hlt, this]
    · rw [if_neg hi, if_neg (by omega)]; rfl
  refine ⟨by rw [h]; split <;> simp, fun hm => ?_⟩
  unfold Q.majB at hm ⊢
  simp only [Bool.and_eq_true, decide_eq_true_eq] at hm ⊢
  omega

set_option maxHeartbeats 800000 in
theorem grows (a b : Nat) (i : Int) (w : World) (ha : a < 18446744073709551616) (hb : b < 256) :
    Calls Try.prog 10 #[.int .u64 (a : Int), .int .u8 (b : Int), .int .i64 i] w fun e w' => e = .returned (.bool true) ∧ w = w' := by
  obtain ⟨k, hk⟩ : ∃ k : Int, k = 1 + (b : Int) % 20 := ⟨_, rfl⟩
  have hk1 : 1 ≤ k := by omega
  have hk2 : k ≤ 20 := by omega
  have hx := Q.add_lt a i ha
  obtain ⟨hp1, hp2⟩ := grows_plain a k i hk1 hk2
  have hca := Q.count_le a k
  have hcx := Q.count_le (Q.addN a i) k
  generalize hX : Q.addN a i = x at *
  have HX := Lib.hid hX
  have HK := Lib.hid hk.symm
  have HP2 := Lib.hid hp2
  clear hX hk hp2
  cases h0 : decide (0 ≤ i) <;> cases hik : decide (i < k) <;> cases hB : Q.hasB a i <;> cases hM : Q.majB a k
  all_goals
    simp only [decide_eq_true_eq, decide_eq_false_iff_not] at h0 hik
    have HB := Lib.hid hB
    have HM := Lib.hid hM
    have HM2 : Hid (Q.majB a k = true → Q.majB x k = true) := HP2
    have hcc : ((Q.countN x k : Int) == (Q.countN a k : Int) + (if (0 ≤ i ∧ i < k) ∧ Q.hasB a i = false then 1 else 0)) = true := by simpa using hp1
    rw [HB.out] at hcc
    simp [h0, hik] at hcc
    clear hp1 HP2
    clear hB hM
    go_enter Try.func10, Try.ntmps10
    go_wp2_with fail
    rw [HK.out]
    refine (add_any _ _ _ ha).mono ?_
    rintro e w' ⟨rfl, rfl⟩
    rw [HX.out]
    go_wp2_with (first | (go_at_call 38; refine (has_any _ _ _ ha).mono ?_; rintro e w' ⟨rfl, rfl⟩; rw [HB.out]) | (go_at_call 34; refine (q_awake _).mono ?_; rintro e w' ⟨rfl, rfl⟩))
  all_goals
    refine (count_any _ _ _ hx).mono ?_
    rintro e w' ⟨rfl, rfl⟩
    go_wp2_with fail
    refine (count_any _ _ _ ha).mono ?_
    rintro e w' ⟨rfl, rfl⟩
    go_wp2_with fail
    refine (maj_any _ _ _ ha).mono ?_
    rintro e w' ⟨rfl, rfl⟩
    rw [HM.out]
    go_wp2_with fail
  all_goals first
    | (go_ret; exact ⟨rfl, rfl⟩)
    | (refine (maj_any _ _ _ hx).mono ?_
       rintro e w' ⟨rfl, rfl⟩
       rw [HM2.out HM.out]
       go_wp2
       go_ret
       exact ⟨rfl, rfl⟩)

theorem quorumGrows_walk (W : World) (v0 v1 v2 : Value) (h0 : Arg W 43 v0) (h1 : Arg W 5 v1) (h2 : Arg W 3 v2) :
    Calls Try.prog 10 #[v0, v1, v2] W fun e W' => e = .returned (.bool true) ∧ Below W.heap.size W W' := by
  obtain ⟨a, rfl, ha⟩ := h0.u64 Try.underlying43
  obtain ⟨b, rfl, hb⟩ := h1.u8 Try.underlying5
  obtain ⟨i, rfl, _, _⟩ := h2.i64 Try.underlying3
  exact (grows a b i W ha hb).mono fun e w' ⟨he, hw⟩ => ⟨he, hw ▸ Below.refl _ _⟩
end Go.Proofs.Ytfpblaggnehnoaa
