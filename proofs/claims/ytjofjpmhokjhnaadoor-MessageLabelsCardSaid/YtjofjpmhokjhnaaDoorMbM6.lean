/- The walks of layer 4's values: Formed, Compare. Conditions: a text is no longer than any Go text, bits are a uint64, the tables lie. -/
import Derived.Test.YtjofjpmhokjhnaaDoorMbM5
namespace Go.Proofs.YtjofjpmhokjhnaaDoor
set_option maxRecDepth 20000
open Go.RowKit
set_option linter.unusedSimpArgs false
set_option linter.unusedVariables false

namespace V
def formed (k : Int) (b : Nat) (t : List UInt8) : Bool :=
  if k = 0 then decide (b = 0 ∧ t = [])
  else if k = 1 then decide (t = [] ∧ ncanon b = b)
  else if k = 2 then decide (b = 0 ∧ t.length ≤ 40) && Lib.validD t
  else false
/-- a value -/
def val (k : Int) (b : Nat) (t : ByteArray) : Value := .agg #[.int .i64 k, .int .u64 b, .string t]
end V
theorem cell3 (w : World) (u0 u1 u2 : Value) (e : TypeId) : (w.alloc (.cells #[u0, u1, u2] e)).cell? ⟨w.heap.size, 0, none⟩ = some u0 ∧ (w.alloc (.cells #[u0, u1, u2] e)).cell? ⟨w.heap.size, 1, none⟩ = some u1 ∧ (w.alloc (.cells #[u0, u1, u2] e)).cell? ⟨w.heap.size, 2, none⟩ = some u2 := ⟨by simp, by simp, by simp⟩

set_option maxHeartbeats 1600000 in
theorem formed_0 (b : Nat) (t : ByteArray) (w : World) :
    Calls Tryd.prog 48 #[.agg #[.int .i64 0, .int .u64 b, .string t]] w fun e w' => e = .returned (.bool (decide (b = 0 ∧ t.toList = []))) ∧ Below w.heap.size w w' := by
  obtain ⟨p, hp⟩ : ∃ p : Bool, p = decide (b = 0 ∧ t.toList = []) := ⟨_, rfl⟩
  rw [← hp]
  have HP := Lib.hid hp
  clear hp
  go_enter Tryd.func48, Tryd.ntmps48
  go_wp2
  all_goals
    go_ret
    refine ⟨ret_bool ?_, (Below.refl _ _).alloc (Nat.le_refl _) _⟩
    rw [HP.out]
    simp [*]
set_option maxHeartbeats 1600000 in
theorem formed_1 (b : Nat) (t : ByteArray) (w : World) (ht : t.toList = []) :
    Calls Tryd.prog 48 #[.agg #[.int .i64 1, .int .u64 b, .string t]] w fun e w' => e = .returned (.bool (decide (V.ncanon b = b))) ∧ Below w.heap.size w w' := by
  obtain ⟨p, hp⟩ : ∃ p : Bool, p = decide (V.ncanon b = b) := ⟨_, rfl⟩
  rw [← hp]
  have HP := Lib.hid hp
  have HT := Lib.hid ht
  clear hp
  have k := (cell3 w (.int .i64 1) (.int .u64 b) (.string t) 35).2
  go_enter Tryd.func48, Tryd.ntmps48
  go_wp2
  go_region_held3 (fun w' => w'.cell? ⟨w.heap.size, 1, none⟩ = some (.int .u64 b) ∧ w'.cell? ⟨w.heap.size, 2, none⟩ = some (.string t)) (exact k) (first | (go_at_call 104; refine (ncanon_any b _).mono ?_; rintro e v1 ⟨rfl, rfl⟩))
  go_wp2
  go_ret
  refine ⟨ret_bool ?_, belowDrewN ((Below.refl _ _).alloc (Nat.le_refl _) _) _⟩
  rw [HP.out]
  by_cases h : V.ncanon b = b
  · simp [h]
  · have : ¬ ((V.ncanon b : Int) = (b : Int)) := by omega
    simp [h, this]
set_option maxHeartbeats 1600000 in
theorem formed_1' (b : Nat) (t : ByteArray) (w : World) (ht : ¬ t.toList = []) :
    Calls Tryd.prog 48 #[.agg #[.int .i64 1, .int .u64 b, .string t]] w fun e w' => e = .returned (.bool false) ∧ Below w.heap.size w w' := by
  have HT := Lib.hid ht
  go_enter Tryd.func48, Tryd.ntmps48
  go_wp2
  go_quiet (fail)
  go_wp2
  go_ret
  exact ⟨rfl, belowDrewN ((Below.refl _ _).alloc (Nat.le_refl _) _) _⟩
set_option maxHeartbeats 1600000 in
theorem formed_2 (t : ByteArray) (w : World) (hs : t.size ≤ 40) (hT : Tabs w) :
    Calls Tryd.prog 48 #[.agg #[.int .i64 2, .int .u64 0, .string t]] w fun e w' => e = .returned (.bool (Lib.validD t.data.toList)) ∧ Below w.heap.size w w' := by
  obtain ⟨p, hp⟩ : ∃ p : Bool, p = Lib.validD t.data.toList := ⟨_, rfl⟩
  rw [← hp]
  have HP := Lib.hid hp
  clear hp
  have hT1 := Lib.hid (show Tabs (w.alloc (.cells #[.int .i64 2, .int .u64 0, .string t] 35)) from hT.below ((Below.refl _ _).alloc (Nat.le_refl _) _))
  clear hT
  have hs' : (t.size : Int) ≤ 40 := by omega
  go_enter Tryd.func48, Tryd.ntmps48
  go_wp2_with fail
  refine (valid_any t _ (by omega) hT1.out).mono ?_
  rw [← HP.out]
  rintro e v1 ⟨rfl, b1⟩
  go_wp2_with fail
  go_ret
  exact ⟨rfl, ((Below.refl _ _).alloc (Nat.le_refl _) _).trans (b1.mono (by simp))⟩
set_option maxHeartbeats 1600000 in
theorem formed_2l (t : ByteArray) (w : World) (hs : ¬ t.size ≤ 40) :
    Calls Tryd.prog 48 #[.agg #[.int .i64 2, .int .u64 0, .string t]] w fun e w' => e = .returned (.bool false) ∧ Below w.heap.size w w' := by
  have h1 : ¬ (t.size : Int) ≤ 40 := by omega
  go_enter Tryd.func48, Tryd.ntmps48
  go_wp2
  go_ret
  exact ⟨rfl, (Below.refl _ _).alloc (Nat.le_refl _) _⟩
set_option maxHeartbeats 1600000 in
theorem formed_2b (b : Nat) (t : ByteArray) (w : World) (hb : ¬ b = 0) :
    Calls Tryd.prog 48 #[.agg #[.int .i64 2, .int .u64 b, .string t]] w fun e w' => e = .returned (.bool false) ∧ Below w.heap.size w w' := by
  go_enter Tryd.func48, Tryd.ntmps48
  go_wp2
  go_ret
  exact ⟨rfl, (Below.refl _ _).alloc (Nat.le_refl _) _⟩
set_option maxHeartbeats 1600000 in
theorem formed_3 (k : Int) (b : Nat) (t : ByteArray) (w : World) (h0 : ¬ k = 0) (h1 : ¬ k = 1) (h2 : ¬ k = 2) :
    Calls Tryd.prog 48 #[.agg #[.int .i64 k, .int .u64 b, .string t]] w fun e w' => e = .returned (.bool false) ∧ Below w.heap.size w w' := by
  go_enter Tryd.func48, Tryd.ntmps48
  go_wp2
  go_ret
  exact ⟨rfl, (Below.refl _ _).alloc (Nat.le_refl _) _⟩
theorem formed_any (k : Int) (b : Nat) (t : ByteArray) (w : World) (hT : Tabs w) :
    Calls Tryd.prog 48 #[V.val k b t] w fun e w' => e = .returned (.bool (V.formed k b t.data.toList)) ∧ Below w.heap.size w w' := by
  have hsz : t.data.toList.length = t.size := by rw [Array.length_toList]; rfl
  unfold V.formed V.val
  by_cases h0 : k = 0
  · subst h0
    rw [if_pos rfl, ← Lib.toList_data t]
    exact formed_0 b t w
  · rw [if_neg h0]
    by_cases h1 : k = 1
    · subst h1
      rw [if_pos rfl, ← Lib.toList_data t]
      by_cases ht : t.toList = []
      · rw [show decide (t.toList = [] ∧ V.ncanon b = b) = decide (V.ncanon b = b) by simp [ht]]
        exact formed_1 b t w ht
      · rw [show decide (t.toList = [] ∧ V.ncanon b = b) = false by simp [ht]]
        exact formed_1' b t w ht
    · rw [if_neg h1]
      by_cases h2 : k = 2
      · subst h2
        rw [if_pos rfl, hsz]
        by_cases hb : b = 0
        · subst hb
          by_cases hs : t.size ≤ 40
          · rw [show decide (0 = 0 ∧ t.size ≤ 40) = true by simp [hs], Bool.true_and]
            exact formed_2 t w hs hT
          · rw [show decide (0 = 0 ∧ t.size ≤ 40) = false by simp [hs], Bool.false_and]
            exact formed_2l t w hs
        · rw [show decide (b = 0 ∧ t.size ≤ 40) = false by simp [hb], Bool.false_and]
          exact formed_2b b t w hb
      · rw [if_neg h2]
        exact formed_3 k b t w h0 h1 h2
end Go.Proofs.YtjofjpmhokjhnaaDoor
