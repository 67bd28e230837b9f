/- The walks of the functions of layer 5 that make lists, and of the laws QuorumTells and QuorumMeets. -/
import Derived.Test.YtfpblaggnehnoaaQuorumHalves
namespace Go.Proofs.Ytfpblaggnehnoaa
open Go.RowKit
set_option linter.unusedSimpArgs false
set_option linter.unusedVariables false

theorem info_int : (Try.prog.info? 3).map (fun i => (i.zero, i.size, i.bytes)) = some (some (.int .i64 0), 1, 8) := by kernel_rfl

def ints (l : List Nat) : List Value := l.map fun (j : Nat) => Value.int .i64 (j : Int)
theorem ints_snoc (l : List Nat) (k : Nat) : ints (l ++ [k]) = ints l ++ [.int .i64 (k : Int)] := by simp [ints]

/-- what a function that makes a list leaves: a row of its own that holds it -/
def Made (w : World) (l : List Nat) (e : Ending) (w' : World) : Prop :=
  ∃ v, e = .returned v ∧ w'.ownsRow w.heap.size 3 1 v l.length (ints l) ∧ Below w.heap.size w w'

set_option maxHeartbeats 800000 in
theorem list_any (s : Nat) (n : Int) (w : World) (hs : s < 18446744073709551616) :
    Calls Try.prog 45 #[.int .u64 (s : Int), .int .i64 n] w (Made w (Q.listN s (Q.clampN n))) := by
  obtain ⟨i0, hi, hz0, hz1, hz2⟩ := info_parts info_int
  have hc := Q.clamp_le n
  have hm : ∃ m : Nat, m = Q.clampN n := ⟨_, rfl⟩
  obtain ⟨m, hm⟩ := hm
  have HM := Lib.hid hm
  have e1 : ((if 64 < (if n < 0 then 0 else n) then (64 : Int) else (if n < 0 then 0 else n)) : Int) = (m : Int) := by rw [hm]; unfold Q.clampN; split <;> split <;> omega
  rw [← hm] at hc
  rw [← hm]
  clear hm
  go_enter Try.func45, Try.ntmps45
  go_wp2_with fail
  all_goals
    clear e1
    go_loopw [5, 10] (fun v i wr => ∃ k : Nat, k ≤ m ∧ i = .int .i64 k ∧ wr.ownsRow w.heap.size 3 1 v (Q.listN s k).length (ints (Q.listN s k)) ∧ Below w.heap.size w wr) (fun _ i _ => m - (intOf i).toNat)
    case atStart => exact ⟨0, Nat.zero_le _, rfl, World.ownsRow_nil _ _ _ _, Below.refl _ _⟩
    case round =>
      obtain ⟨k, hk, rfl, hown, hbel⟩ := hrel
      by_cases hlt : k < m
      · have hh : Q.hasB s (k : Int) = s.testBit k := by
          unfold Q.hasB
          have h1 : decide ((0 : Int) ≤ (k : Int)) = true := by simp
          have h2 : decide ((k : Int) ≤ 63) = true := by simp; omega
          rw [h1, h2]; simp
        cases hb : s.testBit k
        · have hl : Q.listN s (k + 1) = Q.listN s k := by rw [Q.list_succ, hb]; simp
          have HL := Lib.hid hl
          have HH := Lib.hid (hh.trans hb)
          clear hh hb hl
          go_wp2_with (go_at_call 38; refine (has_any _ _ _ hs).mono ?_; rintro e w' ⟨rfl, rfl⟩; rw [HH.out])
          go_roundw
          case rel => exact ⟨k + 1, by omega, by go_num, by rw [HL.out]; exact hown, hbel⟩
          case measure => simp [intOf]; omega
        · have hl : Q.listN s (k + 1) = Q.listN s k ++ [k] := by rw [Q.list_succ, hb]; simp
          have HL := Lib.hid hl
          have HH := Lib.hid (hh.trans hb)
          have hlen : (Q.listN s k).length ≤ 64 := by rw [Q.list_len]; have := Q.cnt_le s k; omega
          clear hh hb hl
          go_wp2_with (first
            | (go_at_call 38; refine (has_any _ _ _ hs).mono ?_; rintro e w' ⟨rfl, rfl⟩; rw [HH.out])
            | (at_builtin; refine wpList_append_own _ rfl _ _ 60 rfl w.heap.size 3 i0 (.int .i64 0) 1 8 Try.underlying60 hi hz0 hz1 hz2 rfl (by decide) _ _ _ rfl (hown.alloc _) ⟨wr.heap.size, 0, none⟩ 1 1 [.int .i64 (k : Int)] rfl rfl ?c1 ?c2 ?c3 ?c4 ?c5 ?_))
          case c1 => exact oneAt _ _ _
          case c2 => intro u hu; simp at hu; subst hu; rfl
          case c3 => unfold maxLen; omega
          case c4 => omega
          case c5 => have := hbel.size; simp; omega
          intro v' w1 hown' hgrow _
          have R : w1.ownsRow w.heap.size 3 1 v' (Q.listN s (k + 1)).length (ints (Q.listN s (k + 1))) ∧ Below w.heap.size w w1 := by
            refine ⟨?_, (hbel.alloc hbel.size _).grown hgrow (by have := hbel.size; simp; omega) (fun g hg => (hown.lt g hg).1)⟩
            rw [HL.out, ints_snoc]; simpa using hown'
          clear hown' hgrow hown hbel
          go_wp2
          go_roundw
          case rel => exact ⟨k + 1, by omega, by go_num, R.1, R.2⟩
          case measure => simp [intOf]; omega
      · obtain rfl : k = m := by omega
        go_wp2
        go_ret
        exact ⟨_, rfl, hown, hbel⟩

set_option maxHeartbeats 800000 in
theorem rlist_any (s : Nat) (n : Int) (w : World) (hs : s < 18446744073709551616) (hn1 : -9223372036854775808 ≤ n) (hn2 : n ≤ 9223372036854775807) :
    Calls Try.prog 46 #[.int .u64 (s : Int), .int .i64 n] w (Made w (Q.listN s (Q.clampN n))) := by
  obtain ⟨i0, hi, hz0, hz1, hz2⟩ := info_parts info_int
  go_enter Try.func46, Try.ntmps46
  go_wp2_with fail
  go_loopw [5, 6] (fun v i wr => ∃ k : Nat, k ≤ Q.clampN n ∧ i = .int .i64 k ∧ wr.ownsRow w.heap.size 3 1 v (Q.listN s k).length (ints (Q.listN s k)) ∧ Below w.heap.size w wr) (fun _ i _ => 64 - (intOf i).toNat)
  case atStart => exact ⟨0, Nat.zero_le _, rfl, World.ownsRow_nil _ _ _ _, Below.refl _ _⟩
  case round =>
    obtain ⟨k, hk, rfl, hown, hbel⟩ := hrel
    have hk' : k ≤ 64 ∧ ((k : Int) ≤ n ∨ k = 0) := by unfold Q.clampN at hk; omega
    obtain ⟨hk64, hkn⟩ := hk'
    by_cases hlt : (k : Int) < n
    · by_cases h64 : k < 64
      · have hk1 : k + 1 ≤ Q.clampN n := by unfold Q.clampN; omega
        have hh : Q.hasB s (k : Int) = s.testBit k := by
          unfold Q.hasB
          have h1 : decide ((0 : Int) ≤ (k : Int)) = true := by simp
          have h2 : decide ((k : Int) ≤ 63) = true := by simp; omega
          rw [h1, h2]; simp
        cases hb : s.testBit k
        · have hl : Q.listN s (k + 1) = Q.listN s k := by rw [Q.list_succ, hb]; simp
          have HL := Lib.hid hl
          have HH := Lib.hid (hh.trans hb)
          clear hh hb hl hkn
          go_wp2_with (go_at_call 39; refine (rhas_any _ _ _ hs).mono ?_; rintro e w' ⟨rfl, rfl⟩; rw [HH.out])
          go_roundw
          case rel => exact ⟨k + 1, hk1, by go_num, by rw [HL.out]; exact hown, hbel⟩
          case measure => simp [intOf]; omega
        · have hl : Q.listN s (k + 1) = Q.listN s k ++ [k] := by rw [Q.list_succ, hb]; simp
          have HL := Lib.hid hl
          have HH := Lib.hid (hh.trans hb)
          have hlen : (Q.listN s k).length ≤ 64 := by rw [Q.list_len]; have := Q.cnt_le s k; omega
          clear hh hb hl hkn
          go_wp2_with (first
            | (go_at_call 39; refine (rhas_any _ _ _ hs).mono ?_; rintro e w' ⟨rfl, rfl⟩; rw [HH.out])
            | (at_builtin; refine wpList_append_own _ rfl _ _ 60 rfl w.heap.size 3 i0 (.int .i64 0) 1 8 Try.underlying60 hi hz0 hz1 hz2 rfl (by decide) _ _ _ rfl (hown.alloc _) ⟨wr.heap.size, 0, none⟩ 1 1 [.int .i64 (k : Int)] rfl rfl ?c1 ?c2 ?c3 ?c4 ?c5 ?_))
          case c1 => exact oneAt _ _ _
          case c2 => intro u hu; simp at hu; subst hu; rfl
          case c3 => unfold maxLen; omega
          case c4 => omega
          case c5 => have := hbel.size; simp; omega
          intro v' w1 hown' hgrow _
          have R : w1.ownsRow w.heap.size 3 1 v' (Q.listN s (k + 1)).length (ints (Q.listN s (k + 1))) ∧ Below w.heap.size w w1 := by
            refine ⟨?_, (hbel.alloc hbel.size _).grown hgrow (by have := hbel.size; simp; omega) (fun g hg => (hown.lt g hg).1)⟩
            rw [HL.out, ints_snoc]; simpa using hown'
          clear hown' hgrow hown hbel
          go_wp2
          go_roundw
          case rel => exact ⟨k + 1, hk1, by go_num, R.1, R.2⟩
          case measure => simp [intOf]; omega
      · have he : Q.clampN n = k := by unfold Q.clampN; omega
        have HE := Lib.hid he
        clear he
        go_wp2
        go_ret
        exact ⟨_, rfl, by rw [HE.out]; exact hown, hbel⟩
    · have he : Q.clampN n = k := by unfold Q.clampN at hk ⊢; omega
      have HE := Lib.hid he
      clear he
      go_wp2
      go_ret
      exact ⟨_, rfl, by rw [HE.out]; exact hown, hbel⟩

set_option maxHeartbeats 800000 in
theorem ints_eq (A B : Option Addr) (c d : Nat) (l : List Nat) (w : World) (b1 b2 : Nat) (hl : l.length ≤ 64) (hA : Rd w b1 A (ints l)) (hB : Rd w b2 B (ints l)) (hc : l.length ≤ c) (hd : l.length ≤ d) :
    Calls Try.prog 44 #[.slice A l.length c, .slice B l.length d] w fun e w' => e = .returned (.bool true) ∧ ∃ n, w' = w.drewN n := by
  obtain ⟨n, hn⟩ : ∃ n, n = l.length := ⟨_, rfl⟩
  have HN := Lib.hid hn
  rw [← hn] at hl hc hd ⊢
  clear hn
  go_enter Try.func44, Try.ntmps44
  go_wp2_with fail
  go_loopw [5] (fun i wr => ∃ k m : Nat, k ≤ n ∧ i = .int .i64 k ∧ wr = w.drewN m) (fun i _ => n - (intOf i).toNat)
  case atStart => exact ⟨0, 0, Nat.zero_le _, rfl, rfl⟩
  case round =>
    obtain ⟨k, m, hk, rfl, rfl⟩ := hrel
    by_cases hlt : k < n
    · have hk2 : k < (ints l).length := by rw [ints, List.length_map, ← HN.out]; exact hlt
      obtain ⟨ab, ao, rfl, _, hca⟩ := hA.at_ hk2
      obtain ⟨bb, bo, rfl, _, hcb⟩ := hB.at_ hk2
      have hx : (ints l)[k] = .int .i64 ((l[k]'(by rw [← HN.out]; exact hlt) : Nat) : Int) := by simp [ints]
      rw [hx] at hca hcb
      generalize (l[k]'(by rw [← HN.out]; exact hlt) : Nat) = x at hca hcb
      clear hx hk2
      have hb0 : (0 : Int) ≤ (k : Int) := by omega
      have hb1 : (k : Int) < (n : Int) := by omega
      go_wp2_with fail
      go_quiet (fail)
      go_wp2_with fail
      go_roundw
      case rel => exact ⟨k + 1, _, by omega, by go_num, rfl⟩
      case measure => simp [intOf]; omega
    · go_wp2_with fail
      go_ret
      exact ⟨rfl, _, rfl⟩

set_option maxHeartbeats 400000 in
theorem rcount_any (s : Nat) (n : Int) (w : World) (hs : s < 18446744073709551616) (hn1 : -9223372036854775808 ≤ n) (hn2 : n ≤ 9223372036854775807) :
    Calls Try.prog 40 #[.int .u64 (s : Int), .int .i64 n] w fun e w' => e = .returned (.int .i64 (Q.countN s n : Nat)) ∧ Below w.heap.size w w' := by
  have H : Hid ((Q.listN s (Q.clampN n)).length = Q.countN s n) := Q.list_len _ _
  go_enter Try.func40, Try.ntmps40
  go_wp2_with fail
  refine (rlist_any _ _ _ hs hn1 hn2).mono ?_
  rintro e w1 ⟨v, rfl, hown, hbel⟩
  obtain ⟨A, c, rfl, _, _, _⟩ := ownShape hown
  rw [H.out]
  clear hown
  go_wp2
  go_ret
  exact ⟨rfl, hbel⟩

set_option maxHeartbeats 400000 in
theorem rmaj_any (s : Nat) (n : Int) (w : World) (hs : s < 18446744073709551616) (hn1 : -9223372036854775808 ≤ n) (hn2 : n ≤ 9223372036854775807) :
    Calls Try.prog 41 #[.int .u64 (s : Int), .int .i64 n] w fun e w' => e = .returned (.bool (Q.majB s n)) ∧ Below w.heap.size w w' := by
  by_cases h1 : 1 ≤ n
  · have H : Hid (Q.majB s n = decide (Q.leastN n ≤ Q.countN s n)) := by show _ = _; unfold Q.majB; simp [h1]
    go_enter Try.func41, Try.ntmps41
    go_wp2_with fail
    refine (rcount_any _ _ _ hs hn1 hn2).mono ?_
    rintro e w1 ⟨rfl, hbel⟩
    go_wp2_with fail
    refine (rleast_any _ _ hn1 hn2).mono ?_
    rintro e w2 ⟨rfl, rfl⟩
    go_wp2
    go_ret
    exact ⟨ret_bool (by rw [H.out]), hbel⟩
  · have H : Hid (Q.majB s n = false) := by show _ = _; unfold Q.majB; simp; omega
    go_enter Try.func41, Try.ntmps41
    go_wp2
    go_ret
    exact ⟨ret_bool (by rw [H.out]), Below.refl _ _⟩

set_option maxHeartbeats 800000 in
theorem tells (s : Nat) (n : Int) (w : World) (hs : s < 18446744073709551616) (hn1 : -9223372036854775808 ≤ n) (hn2 : n ≤ 9223372036854775807) :
    Calls Try.prog 11 #[.int .u64 (s : Int), .int .i64 n] w fun e w' => e = .returned (.bool true) ∧ Below w.heap.size w w' := by
  have hl : (Q.listN s (Q.clampN n)).length ≤ 64 := by rw [Q.list_len]; exact Q.count_le s n
  go_enter Try.func11, Try.ntmps11
  go_wp2_with (first | (go_at_call 34; refine (q_awake _).mono ?_; rintro e w' ⟨rfl, rfl⟩))
  refine (count_any _ _ _ hs).mono ?_
  rintro e w1 ⟨rfl, rfl⟩
  go_wp2_with fail
  refine (rcount_any _ _ _ hs hn1 hn2).mono ?_
  rintro e w1 ⟨rfl, hb1⟩
  go_wp2_with fail
  refine (maj_any _ _ _ hs).mono ?_
  rintro e w' ⟨rfl, rfl⟩
  go_wp2_with fail
  refine (rmaj_any _ _ _ hs hn1 hn2).mono ?_
  rintro e w2 ⟨rfl, hb2⟩
  go_wp2_with fail
  refine (least_any _ _).mono ?_
  rintro e w' ⟨rfl, rfl⟩
  go_wp2_with fail
  refine (rleast_any _ _ hn1 hn2).mono ?_
  rintro e w' ⟨rfl, rfl⟩
  go_wp2_with fail
  refine (list_any _ _ _ hs).mono ?_
  rintro e w3 ⟨v, rfl, hown, hb3⟩
  go_wp2_with fail
  refine (rlist_any _ _ _ hs hn1 hn2).mono ?_
  rintro e w4 ⟨v', rfl, hown', hb4⟩
  obtain ⟨A, c, rfl, hc, _, _⟩ := ownShape hown
  obtain ⟨B, d, rfl, hd, _, _⟩ := ownShape hown'
  go_wp2_with fail
  refine (ints_eq A B c d _ _ _ _ hl ((Rd.ofOwn hown).below hb4) (Rd.ofOwn hown') hc hd).mono ?_
  rintro e w5 ⟨rfl, m, rfl⟩
  go_wp2
  go_ret
  exact ⟨rfl, belowDrewN (((hb1.trans (hb2.mono hb1.size)).trans (hb3.mono (Nat.le_trans hb1.size hb2.size))).trans (hb4.mono (Nat.le_trans hb1.size (Nat.le_trans hb2.size hb3.size)))) m⟩

theorem quorumTells_walk (W : World) (v0 v1 : Value) (h0 : Arg W 43 v0) (h1 : Arg W 3 v1) :
    Calls Try.prog 11 #[v0, v1] W fun e W' => e = .returned (.bool true) ∧ Below W.heap.size W W' := by
  obtain ⟨a, rfl, ha⟩ := h0.u64 Try.underlying43
  obtain ⟨k, rfl, h1, h2⟩ := h1.i64 Try.underlying3
  exact tells a k W ha h1 h2

/-! ### QuorumMeets -/
theorem cnt_mono (a b n : Nat) (h : ∀ i, a.testBit i = true → b.testBit i = true) : Q.cnt a n ≤ Q.cnt b n := by
  induction n with
  | zero => exact Nat.le_refl _
  | succ n ih =>
    simp only [Q.cnt]
    have := h n
    cases ha : a.testBit n
    · simp; omega
    · rw [this ha]; simp; omega
theorem meets_plain (a b : Nat) (n : Int) (ha : Q.majB a n = true) (hb : Q.majB b n = true) : 0 < Q.countN (a &&& b) n ∧ Q.majB (a ||| b) n = true := by
  have h := Q.cnt_and_or a b (Q.clampN n)
  have hle := Q.cnt_le (a ||| b) (Q.clampN n)
  have h2 : Q.cnt a (Q.clampN n) ≤ Q.cnt (a ||| b) (Q.clampN n) := cnt_mono _ _ _ (fun i hi => by rw [Nat.testBit_or, hi]; rfl)
  unfold Q.majB Q.leastN Q.countN at *
  simp only [Bool.and_eq_true, decide_eq_true_eq] at ha hb ⊢
  omega

set_option maxHeartbeats 800000 in
theorem meets (a b : Nat) (n : Int) (w : World) (ha : a < 18446744073709551616) (hb : b < 18446744073709551616) :
    Calls Try.prog 12 #[.int .u64 (a : Int), .int .u64 (b : Int), .int .i64 n] w fun e w' => e = .returned (.bool true) ∧ Below w.heap.size w w' := by
  have hand : (a &&& b) < 18446744073709551616 := Nat.lt_of_le_of_lt Nat.and_le_left ha
  have hor : (a ||| b) < 18446744073709551616 := by
    have := Nat.or_lt_two_pow (x := a) (y := b) (n := 64) (by omega) (by omega)
    omega
  have HA := Lib.hid (u64_and_nat a b ha hb)
  have HO := Lib.hid (u64_or_nat a b ha hb)
  cases hA : Q.majB a n
  · have H := Lib.hid hA
    clear hA
    go_enter Try.func12, Try.ntmps12
    go_wp2_with fail
    refine (maj_any _ _ _ ha).mono ?_
    rintro e w' ⟨rfl, rfl⟩
    rw [H.out]
    go_wp2_with (first | (go_at_call 34; refine (q_awake _).mono ?_; rintro e w' ⟨rfl, rfl⟩))
    go_ret
    exact ⟨rfl, Below.refl _ _⟩
  · cases hB : Q.majB b n
    · have H := Lib.hid hA
      have H2 := Lib.hid hB
      clear hA hB
      go_enter Try.func12, Try.ntmps12
      go_wp2_with fail
      refine (maj_any _ _ _ ha).mono ?_
      rintro e w' ⟨rfl, rfl⟩
      rw [H.out]
      go_wp2_with fail
      refine (maj_any _ _ _ hb).mono ?_
      rintro e w' ⟨rfl, rfl⟩
      rw [H2.out]
      go_wp2_with (first | (go_at_call 34; refine (q_awake _).mono ?_; rintro e w' ⟨rfl, rfl⟩))
      go_ret
      exact ⟨rfl, Below.refl _ _⟩
    · obtain ⟨hpos, hmaj⟩ := meets_plain a b n hA hB
      have hlen : (Q.listN (a &&& b) (Q.clampN n)).length = Q.countN (a &&& b) n := Q.list_len _ _
      have HL := Lib.hid hlen
      have H := Lib.hid hA
      have H2 := Lib.hid hB
      have H3 := Lib.hid hmaj
      clear hA hB hmaj hlen
      go_enter Try.func12, Try.ntmps12
      go_wp2_with fail
      refine (maj_any _ _ _ ha).mono ?_
      rintro e w' ⟨rfl, rfl⟩
      rw [H.out]
      go_wp2_with fail
      refine (maj_any _ _ _ hb).mono ?_
      rintro e w' ⟨rfl, rfl⟩
      rw [H2.out]
      go_wp2_with fail
      rw [HA.out]
      refine (list_any _ _ _ hand).mono ?_
      rintro e w1 ⟨v, rfl, hown, hb1⟩
      obtain ⟨A, c, rfl, hc, _, _⟩ := ownShape hown
      rw [HL.out]
      go_wp2_with fail
      rw [HO.out]
      refine (maj_any _ _ _ hor).mono ?_
      rintro e w' ⟨rfl, rfl⟩
      rw [H3.out]
      go_wp2
      go_ret
      exact ⟨rfl, hb1⟩

theorem quorumMeets_walk (W : World) (v0 v1 v2 : Value) (h0 : Arg W 43 v0) (h1 : Arg W 43 v1) (h2 : Arg W 3 v2) :
    Calls Try.prog 12 #[v0, v1, v2] W fun e W' => e = .returned (.bool true) ∧ Below W.heap.size W W' := by
  obtain ⟨a, rfl, ha⟩ := h0.u64 Try.underlying43
  obtain ⟨b, rfl, hb⟩ := h1.u64 Try.underlying43
  obtain ⟨k, rfl, _, _⟩ := h2.i64 Try.underlying3
  exact meets a b k W ha hb
end Go.Proofs.Ytfpblaggnehnoaa
