/- The walks of the reference's Formed and Key. Conditions: bits are a uint64, a text is no longer than any Go text. -/
import Derived.Test.YtjofjpmhokjhnaaDoorForm
import Derived.Test.YtjofjpmhokjhnaaDoorRef01
import Derived.Test.YtjofjpmhokjhnaaDoorRefValid
namespace Go.Proofs.YtjofjpmhokjhnaaDoor
set_option maxRecDepth 20000
open Go.RowKit
set_option linter.unusedSimpArgs false
set_option linter.unusedVariables false

theorem iterBelow (w : World) (s : ByteArray) (pos : Nat) : Below w.heap.size w (w.iter s pos) := (Below.refl _ _).alloc (Nat.le_refl _) _

set_option maxHeartbeats 1600000 in
theorem rformed_0 (b : Nat) (t : ByteArray) (w : World) :
    Calls Tryd.prog 54 #[.agg #[.int .i64 0, .int .u64 b, .string t]] w fun e w' => e = .returned (.bool (decide (b = 0 ∧ t.toList = []))) ∧ Below w.heap.size w w' := by
  by_cases hb : b = 0
  · subst hb
    obtain ⟨p, hp⟩ : ∃ p : Bool, p = decide (0 = 0 ∧ t.toList = []) := ⟨_, rfl⟩
    rw [← hp]
    have HP := Lib.hid hp
    clear hp
    go_enter Tryd.func54, Tryd.ntmps54
    go_wp2
    go_ret
    refine ⟨ret_bool ?_, (Below.refl _ _).alloc (Nat.le_refl _) _⟩
    rw [HP.out]
    cases t.toList <;> simp
  · rw [show decide (b = 0 ∧ t.toList = []) = false by simp [hb]]
    have hb' : ¬ (b : Int) = 0 := by omega
    go_enter Tryd.func54, Tryd.ntmps54
    go_wp2
    go_ret
    exact ⟨rfl, (Below.refl _ _).alloc (Nat.le_refl _) _⟩
set_option maxHeartbeats 1600000 in
theorem rformed_1 (b : Nat) (bb : b < 18446744073709551616) (t : ByteArray) (w : World) (ht : t.toList = []) :
    Calls Tryd.prog 54 #[.agg #[.int .i64 1, .int .u64 b, .string t]] w fun e w' => e = .returned (.bool (decide (V.ncanon b = b))) ∧ Below w.heap.size w w' := by
  obtain ⟨p, hp⟩ : ∃ p : Bool, p = decide (V.ncanon b = b) := ⟨_, rfl⟩
  rw [← hp]
  have HP := Lib.hid hp
  have HT := Lib.hid ht
  clear hp
  have k := (cell3 w (.int .i64 1) (.int .u64 b) (.string t) 35).2
  go_enter Tryd.func54, Tryd.ntmps54
  go_wp2
  go_region_held3 (fun w' => w'.cell? ⟨w.heap.size, 1, none⟩ = some (.int .u64 b) ∧ w'.cell? ⟨w.heap.size, 2, none⟩ = some (.string t)) (exact k) (first | (go_at_call 111; refine (rcanon_any b bb _).mono ?_; rintro e v1 ⟨rfl, rfl⟩))
  go_wp2
  go_ret
  refine ⟨ret_bool ?_, belowDrewN ((Below.refl _ _).alloc (Nat.le_refl _) _) _⟩
  rw [HP.out]
  by_cases h : V.ncanon b = b
  · simp [h]
  · have : ¬ ((V.ncanon b : Int) = (b : Int)) := by omega
    simp [h, this]
set_option maxHeartbeats 1600000 in
theorem rformed_1' (b : Nat) (t : ByteArray) (w : World) (ht : ¬ t.toList = []) :
    Calls Tryd.prog 54 #[.agg #[.int .i64 1, .int .u64 b, .string t]] w fun e w' => e = .returned (.bool false) ∧ Below w.heap.size w w' := by
  have HT := Lib.hid ht
  go_enter Tryd.func54, Tryd.ntmps54
  go_wp2
  go_quiet (fail)
  go_wp2
  go_ret
  exact ⟨rfl, belowDrewN ((Below.refl _ _).alloc (Nat.le_refl _) _) _⟩
set_option maxHeartbeats 1600000 in
theorem rformed_2 (t : ByteArray) (w : World) (hs : t.size ≤ 40) :
    Calls Tryd.prog 54 #[.agg #[.int .i64 2, .int .u64 0, .string t]] w fun e w' => e = .returned (.bool (Lib.validD t.data.toList)) ∧ Below w.heap.size w w' := by
  obtain ⟨p, hp⟩ : ∃ p : Bool, p = Lib.validD t.data.toList := ⟨_, rfl⟩
  rw [← hp]
  have HP := Lib.hid hp
  clear hp
  have hs' : (t.size : Int) ≤ 40 := by omega
  go_enter Tryd.func54, Tryd.ntmps54
  go_wp2_with fail
  refine (rvalid_any t _ (by omega)).mono ?_
  rw [← HP.out]
  rintro e v1 ⟨rfl, pos, rfl⟩
  go_wp2_with fail
  go_ret
  exact ⟨rfl, ((Below.refl _ _).alloc (Nat.le_refl _) _).trans ((iterBelow _ _ _).mono (by simp))⟩
set_option maxHeartbeats 1600000 in
theorem rformed_2l (t : ByteArray) (w : World) (hs : ¬ t.size ≤ 40) :
    Calls Tryd.prog 54 #[.agg #[.int .i64 2, .int .u64 0, .string t]] w fun e w' => e = .returned (.bool false) ∧ Below w.heap.size w w' := by
  have h1 : ¬ (t.size : Int) ≤ 40 := by omega
  go_enter Tryd.func54, Tryd.ntmps54
  go_wp2
  go_ret
  exact ⟨rfl, (Below.refl _ _).alloc (Nat.le_refl _) _⟩
set_option maxHeartbeats 1600000 in
theorem rformed_2b (b : Nat) (t : ByteArray) (w : World) (hb : ¬ b = 0) :
    Calls Tryd.prog 54 #[.agg #[.int .i64 2, .int .u64 b, .string t]] w fun e w' => e = .returned (.bool false) ∧ Below w.heap.size w w' := by
  go_enter Tryd.func54, Tryd.ntmps54
  go_wp2
  go_ret
  exact ⟨rfl, (Below.refl _ _).alloc (Nat.le_refl _) _⟩
set_option maxHeartbeats 1600000 in
theorem rformed_3 (k : Int) (b : Nat) (t : ByteArray) (w : World) (h0 : ¬ k = 0) (h1 : ¬ k = 1) (h2 : ¬ k = 2) :
    Calls Tryd.prog 54 #[.agg #[.int .i64 k, .int .u64 b, .string t]] w fun e w' => e = .returned (.bool false) ∧ Below w.heap.size w w' := by
  go_enter Tryd.func54, Tryd.ntmps54
  go_wp2
  go_ret
  exact ⟨rfl, (Below.refl _ _).alloc (Nat.le_refl _) _⟩
theorem rformed_any (k : Int) (b : Nat) (bb : b < 18446744073709551616) (t : ByteArray) (w : World) :
    Calls Tryd.prog 54 #[V.val k b t] w fun e w' => e = .returned (.bool (V.formed k b t.data.toList)) ∧ Below w.heap.size w w' := by
  have hsz : t.data.toList.length = t.size := by rw [Array.length_toList]; rfl
  unfold V.formed V.val
  by_cases h0 : k = 0
  · subst h0
    rw [if_pos rfl, ← Lib.toList_data t]
    exact rformed_0 b t w
  · rw [if_neg h0]
    by_cases h1 : k = 1
    · subst h1
      rw [if_pos rfl, ← Lib.toList_data t]
      by_cases ht : t.toList = []
      · rw [show decide (t.toList = [] ∧ V.ncanon b = b) = decide (V.ncanon b = b) by simp [ht]]
        exact rformed_1 b bb t w ht
      · rw [show decide (t.toList = [] ∧ V.ncanon b = b) = false by simp [ht]]
        exact rformed_1' b t w ht
    · rw [if_neg h1]
      by_cases h2 : k = 2
      · subst h2
        rw [if_pos rfl, hsz]
        by_cases hb : b = 0
        · subst hb
          by_cases hs : t.size ≤ 40
          · rw [show decide (0 = 0 ∧ t.size ≤ 40) = true by simp [hs], Bool.true_and]
            exact rformed_2 t w hs
          · rw [show decide (0 = 0 ∧ t.size ≤ 40) = false by simp [hs], Bool.false_and]
            exact rformed_2l t w hs
        · rw [show decide (b = 0 ∧ t.size ≤ 40) = false by simp [hb], Bool.false_and]
          exact rformed_2b b t w hb
      · rw [if_neg h2]
        exact rformed_3 k b t w h0 h1 h2

theorem key_all_at (s : ByteArray) (j : Nat) (hj : j < s.size) (hn : V.kb (s[j]'hj) = false) : V.key s.data.toList = false := by
  unfold V.key
  have : s.data.toList.all V.kb = false := by
    rw [← Bool.not_eq_true, List.all_eq_true]
    intro h
    have hm : s[j]'hj ∈ s.data.toList := by
      show s.data[j]'hj ∈ s.data.toList
      simp
    rw [h _ hm] at hn
    exact Bool.noConfusion hn
  rw [this, Bool.and_false]
set_option maxHeartbeats 1600000 in
theorem rkey_any (s : ByteArray) (w : World) (hs : s.size ≤ 9223372036854775807) :
    Calls Tryd.prog 53 #[.string s] w fun e w' => e = .returned (.bool (V.key s.data.toList)) ∧ w' = w := by
  obtain ⟨p, hp⟩ : ∃ p, p = V.key s.data.toList := ⟨_, rfl⟩
  rw [← hp]
  have HP := Lib.hid hp
  clear hp
  have hsz : s.data.toList.length = s.size := by rw [Array.length_toList]; rfl
  have HSZ := Lib.hid hsz
  clear hsz
  go_enter Tryd.func53, Tryd.ntmps53
  go_wp2_with fail
  go_loopw [3] (fun i wr => ∃ k : Nat, k ≤ s.size ∧ i = .int .i64 (k : Int) ∧ Hid (∀ j (hj : j < s.size), j < k → V.kb (s[j]'hj) = true) ∧ wr = w) (fun i _ => s.size - (intOf i).toNat)
  case atStart => exact ⟨0, Nat.zero_le _, rfl, fun j hj h => absurd h (by omega), rfl⟩
  case round =>
    obtain ⟨k, hk, rfl, HA, rfl⟩ := hrel
    by_cases hlt : k < s.size
    · have hb0 : (0 : Int) ≤ (k : Int) := by omega
      have hb1 : (k : Int) < (s.size : Int) := by omega
      have HF := Lib.hid (fun h => key_all_at s k hlt h)
      have HN : Hid (V.kb (s[k]'hlt) = true → ∀ j (hj : j < s.size), j < k + 1 → V.kb (s[j]'hj) = true) := by
        intro h j hj hjk
        by_cases e : j = k
        · subst e; exact h
        · exact HA.out j hj (by omega)
      have HKB : Hid (V.kb (s[k]'hlt) = (decide (97 ≤ (s[k]'hlt).toNat ∧ (s[k]'hlt).toNat ≤ 122) || decide (48 ≤ (s[k]'hlt).toNat ∧ (s[k]'hlt).toNat ≤ 57))) := rfl
      go_wp2
      all_goals
        first
        | (go_ret
           refine ⟨ret_bool ?_, by first | rfl | trivial⟩
           have hf : V.kb (s[k]'hlt) = false := by
             rw [HKB.out, Bool.or_eq_false_iff]
             exact ⟨decide_eq_false (by omega), decide_eq_false (by omega)⟩
           rw [HP.out, HF.out hf])
        | (go_roundw
           case rel => exact ⟨k + 1, by omega, by go_num, HN.out (by rw [HKB.out, Bool.or_eq_true, decide_eq_true_eq, decide_eq_true_eq]; omega), by first | rfl | trivial⟩
           case measure => simp [intOf]; omega)
    · have hb1 : ¬ (k : Int) < (s.size : Int) := by omega
      have hall : s.data.toList.all V.kb = true := by
        rw [List.all_eq_true]
        intro x hx
        obtain ⟨j, hj, e⟩ := List.getElem_of_mem hx
        rw [HSZ.out] at hj
        rw [← e]
        exact HA.out j hj (by omega)
      have hpp : p = (decide (1 ≤ s.size) && decide (s.size ≤ 12)) := by
        rw [HP.out]; unfold V.key; rw [hall, HSZ.out, Bool.and_true]
      clear hall HP HA HSZ
      by_cases c1 : 1 ≤ s.size
      · have c1' : (1 : Int) ≤ (s.size : Int) := by omega
        by_cases c2 : s.size ≤ 12
        · have c2' : (s.size : Int) ≤ 12 := by omega
          have e : p = true := by rw [hpp, decide_eq_true c1, decide_eq_true c2]; rfl
          subst e
          clear hpp
          go_wp2_with fail
          go_ret
          exact ⟨rfl, by first | rfl | trivial⟩
        · have c2' : ¬ (s.size : Int) ≤ 12 := by omega
          have e : p = false := by rw [hpp, decide_eq_false c2, Bool.and_false]
          subst e
          clear hpp
          go_wp2_with fail
          go_ret
          exact ⟨rfl, by first | rfl | trivial⟩
      · have c1' : ¬ (1 : Int) ≤ (s.size : Int) := by omega
        have e : p = false := by rw [hpp, decide_eq_false c1, Bool.false_and]
        subst e
        clear hpp
        go_wp2_with fail
        go_ret
        exact ⟨rfl, by first | rfl | trivial⟩
end Go.Proofs.YtjofjpmhokjhnaaDoor
