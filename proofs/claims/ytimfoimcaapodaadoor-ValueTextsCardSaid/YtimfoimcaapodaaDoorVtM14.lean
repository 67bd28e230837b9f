import Derived.Test.YtimfoimcaapodaaDoorVtM13
set_option maxHeartbeats 1600000
set_option linter.unusedSimpArgs false
set_option linter.unusedVariables false
namespace Go.Proofs.YtimfoimcaapodaaDoor
set_option maxRecDepth 20000
open Go.RowKit
theorem iterBelow (w : World) (s : ByteArray) (pos : Nat) : Below w.heap.size w (w.iter s pos) := (Below.refl _ _).alloc (Nat.le_refl _) _
theorem rformed_0 (b : Nat) (t : ByteArray) (w : World) :
 Calls Tryd.prog 20 #[.agg #[.int .i64 0, .int .u64 b, .string t]] w fun e w' => e = .returned (.bool (decide (b = 0 ∧ t.toList = []))) ∧ Below w.heap.size w w' := by
 by_cases hb : b = 0
 ·subst hb;obtain ⟨p, hp⟩ : ∃ p : Bool, p = decide (0 = 0 ∧ t.toList = []) := ⟨_, rfl⟩;rw [← hp];have HP := Lib.hid hp;clear hp
  go_enter Tryd.func20, Tryd.ntmps20
  go_wp2
  go_ret
  refine ⟨ret_bool ?_, (Below.refl _ _).alloc (Nat.le_refl _) _⟩;rw [HP.out]
  cases t.toList <;> simp
 ·rw [show decide (b = 0 ∧ t.toList = []) = false by simp [hb]];(have hb' : ¬ (b : Int) = 0 := by omega)
  go_enter Tryd.func20, Tryd.ntmps20
  go_wp2
  go_ret
  exact ⟨rfl, (Below.refl _ _).alloc (Nat.le_refl _) _⟩
theorem rformed_1 (b : Nat) (bb : b < 18446744073709551616) (t : ByteArray) (w : World) (ht : t.toList = []) :
 Calls Tryd.prog 20 #[.agg #[.int .i64 1, .int .u64 b, .string t]] w fun e w' => e = .returned (.bool (decide (V.ncanon b = b))) ∧ Below w.heap.size w w' := by
 obtain ⟨p, hp⟩ : ∃ p : Bool, p = decide (V.ncanon b = b) := ⟨_, rfl⟩;rw [← hp];have HP := Lib.hid hp;have HT := Lib.hid ht;clear hp;have k := (cell3 w (.int .i64 1) (.int .u64 b) (.string t) 24).2
 go_enter Tryd.func20, Tryd.ntmps20
 go_wp2
 go_region_held3 (fun w' => w'.cell? ⟨w.heap.size, 1, none⟩ = some (.int .u64 b) ∧ w'.cell? ⟨w.heap.size, 2, none⟩ = some (.string t)) (exact k) (first | (go_at_call 39; refine (rcanon_any b bb _).mono ?_; rintro e v1 ⟨rfl, rfl⟩))
 go_wp2
 go_ret
 refine ⟨ret_bool ?_, belowDrewN ((Below.refl _ _).alloc (Nat.le_refl _) _) _⟩;rw [HP.out]
 by_cases h : V.ncanon b = b
 ·simp [h]
 ·(have : ¬ ((V.ncanon b : Int) = (b : Int)) := by omega);simp [h, this]
theorem rformed_1' (b : Nat) (t : ByteArray) (w : World) (ht : ¬ t.toList = []) :
 Calls Tryd.prog 20 #[.agg #[.int .i64 1, .int .u64 b, .string t]] w fun e w' => e = .returned (.bool false) ∧ Below w.heap.size w w' := by
 have HT := Lib.hid ht
 go_enter Tryd.func20, Tryd.ntmps20
 go_wp2
 go_quiet (fail)
 go_wp2
 go_ret
 exact ⟨rfl, belowDrewN ((Below.refl _ _).alloc (Nat.le_refl _) _) _⟩
theorem rformed_2 (t : ByteArray) (w : World) (hs : t.size ≤ 40) :
 Calls Tryd.prog 20 #[.agg #[.int .i64 2, .int .u64 0, .string t]] w fun e w' => e = .returned (.bool (Lib.validD t.data.toList)) ∧ Below w.heap.size w w' := by
 obtain ⟨p, hp⟩ : ∃ p : Bool, p = Lib.validD t.data.toList := ⟨_, rfl⟩;rw [← hp];have HP := Lib.hid hp;clear hp;(have hs' : (t.size : Int) ≤ 40 := by omega)
 go_enter Tryd.func20, Tryd.ntmps20
 go_wp2_with fail
 refine (rvalid_any t _ (by omega)).mono ?_;rw [← HP.out];rintro e v1 ⟨rfl, pos, rfl⟩
 go_wp2_with fail
 go_ret
 exact ⟨rfl, ((Below.refl _ _).alloc (Nat.le_refl _) _).trans ((iterBelow _ _ _).mono (by simp))⟩
theorem rformed_2l (t : ByteArray) (w : World) (hs : ¬ t.size ≤ 40) :
 Calls Tryd.prog 20 #[.agg #[.int .i64 2, .int .u64 0, .string t]] w fun e w' => e = .returned (.bool false) ∧ Below w.heap.size w w' := by
 have h1 : ¬ (t.size : Int) ≤ 40 := by omega
 go_enter Tryd.func20, Tryd.ntmps20
 go_wp2
 go_ret
 exact ⟨rfl, (Below.refl _ _).alloc (Nat.le_refl _) _⟩
theorem rformed_2b (b : Nat) (t : ByteArray) (w : World) (hb : ¬ b = 0) :
 Calls Tryd.prog 20 #[.agg #[.int .i64 2, .int .u64 b, .string t]] w fun e w' => e = .returned (.bool false) ∧ Below w.heap.size w w' := by
 go_enter Tryd.func20, Tryd.ntmps20
 go_wp2
 go_ret
 exact ⟨rfl, (Below.refl _ _).alloc (Nat.le_refl _) _⟩
theorem rformed_3 (k : Int) (b : Nat) (t : ByteArray) (w : World) (h0 : ¬ k = 0) (h1 : ¬ k = 1) (h2 : ¬ k = 2) :
 Calls Tryd.prog 20 #[.agg #[.int .i64 k, .int .u64 b, .string t]] w fun e w' => e = .returned (.bool false) ∧ Below w.heap.size w w' := by
 go_enter Tryd.func20, Tryd.ntmps20
 go_wp2
 go_ret
 exact ⟨rfl, (Below.refl _ _).alloc (Nat.le_refl _) _⟩
theorem rformed_any (k : Int) (b : Nat) (bb : b < 18446744073709551616) (t : ByteArray) (w : World) :
 Calls Tryd.prog 20 #[V.val k b t] w fun e w' => e = .returned (.bool (V.formed k b t.data.toList)) ∧ Below w.heap.size w w' := by
 (have hsz : t.data.toList.length = t.size := by rw [Array.length_toList]; rfl);unfold V.formed V.val
 by_cases h0 : k = 0
 ·subst h0;rw [if_pos rfl, ← Lib.toList_data t];exact rformed_0 b t w
 ·rw [if_neg h0]
  by_cases h1 : k = 1
  ·subst h1;rw [if_pos rfl, ← Lib.toList_data t]
   by_cases ht : t.toList = []
   ·rw [show decide (t.toList = [] ∧ V.ncanon b = b) = decide (V.ncanon b = b) by simp [ht]];exact rformed_1 b bb t w ht
   ·rw [show decide (t.toList = [] ∧ V.ncanon b = b) = false by simp [ht]];exact rformed_1' b t w ht
  ·rw [if_neg h1]
   by_cases h2 : k = 2
   ·subst h2;rw [if_pos rfl, hsz]
    by_cases hb : b = 0
    ·subst hb
     by_cases hs : t.size ≤ 40
     ·rw [show decide (0 = 0 ∧ t.size ≤ 40) = true by simp [hs], Bool.true_and];exact rformed_2 t w hs
     ·rw [show decide (0 = 0 ∧ t.size ≤ 40) = false by simp [hs], Bool.false_and];exact rformed_2l t w hs
    ·rw [show decide (b = 0 ∧ t.size ≤ 40) = false by simp [hb], Bool.false_and];exact rformed_2b b t w hb
   ·rw [if_neg h2];exact rformed_3 k b t w h0 h1 h2
end Go.Proofs.YtimfoimcaapodaaDoor
