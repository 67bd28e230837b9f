/- The walk of the law ValueOrder. Printed by wip/tools/gen_vorder.py. -/
import Derived.Test.YtdoclbonbjkomaaDoorValPlain
namespace Go.Proofs.YtdoclbonbjkomaaDoor
open Go.RowKit
set_option linter.unusedSimpArgs false
set_option linter.unusedVariables false

/-- three values in three blocks side by side -/
def K9 (n : Nat) (k : Int) (b : Nat) (t : ByteArray) (k' : Int) (b' : Nat) (t' : ByteArray) (k2 : Int) (b2 : Nat) (t2 : ByteArray) (w : World) : Prop :=
  w.cell? ⟨n, 0, none⟩ = some (.int .i64 k) ∧ w.cell? ⟨n, 1, none⟩ = some (.int .u64 b) ∧ w.cell? ⟨n, 2, none⟩ = some (.string t) ∧
  w.cell? ⟨n + 1, 0, none⟩ = some (.int .i64 k') ∧ w.cell? ⟨n + 1, 1, none⟩ = some (.int .u64 b') ∧ w.cell? ⟨n + 1, 2, none⟩ = some (.string t') ∧
  w.cell? ⟨n + 2, 0, none⟩ = some (.int .i64 k2) ∧ w.cell? ⟨n + 2, 1, none⟩ = some (.int .u64 b2) ∧ w.cell? ⟨n + 2, 2, none⟩ = some (.string t2)
theorem K9.below {n : Nat} {k : Int} {b : Nat} {t : ByteArray} {k' : Int} {b' : Nat} {t' : ByteArray} {k2 : Int} {b2 : Nat} {t2 : ByteArray} {w w' : World} (h : K9 n k b t k' b' t' k2 b2 t2 w) (g : Below w.heap.size w w') : K9 n k b t k' b' t' k2 b2 t2 w' := by
  obtain ⟨a1, a2, a3, a4, a5, a6, a7, a8, a9⟩ := h
  exact ⟨cellB g a1, cellB g a2, cellB g a3, cellB g a4, cellB g a5, cellB g a6, cellB g a7, cellB g a8, cellB g a9⟩
/-- the world behind the three boxes -/
def W3 (w : World) (k : Int) (b : Nat) (t : ByteArray) (k' : Int) (b' : Nat) (t' : ByteArray) (k2 : Int) (b2 : Nat) (t2 : ByteArray) : World :=
  ((w.alloc (.cells #[.int .i64 k, .int .u64 b, .string t] 27)).alloc (.cells #[.int .i64 k', .int .u64 b', .string t'] 27)).alloc (.cells #[.int .i64 k2, .int .u64 b2, .string t2] 27)
theorem W3.k9 (w : World) (k : Int) (b : Nat) (t : ByteArray) (k' : Int) (b' : Nat) (t' : ByteArray) (k2 : Int) (b2 : Nat) (t2 : ByteArray) : K9 w.heap.size k b t k' b' t' k2 b2 t2 (W3 w k b t k' b' t' k2 b2 t2) := by
  obtain ⟨a1, a2, a3, a4, a5, a6⟩ := cell33 w (.int .i64 k) (.int .u64 b) (.string t) (.int .i64 k') (.int .u64 b') (.string t') 27
  have c := cell3 ((w.alloc (.cells #[.int .i64 k, .int .u64 b, .string t] 27)).alloc (.cells #[.int .i64 k', .int .u64 b', .string t'] 27)) (.int .i64 k2) (.int .u64 b2) (.string t2) 27
  rw [show ((w.alloc (.cells #[.int .i64 k, .int .u64 b, .string t] 27)).alloc (.cells #[.int .i64 k', .int .u64 b', .string t'] 27)).heap.size = w.heap.size + 2 by simp] at c
  exact ⟨cellA _ a1, cellA _ a2, cellA _ a3, cellA _ a4, cellA _ a5, cellA _ a6, c.1, c.2.1, c.2.2⟩
theorem W3.bel (w : World) (k : Int) (b : Nat) (t : ByteArray) (k' : Int) (b' : Nat) (t' : ByteArray) (k2 : Int) (b2 : Nat) (t2 : ByteArray) : Below w.heap.size w (W3 w k b t k' b' t' k2 b2 t2) :=
  (((Below.refl _ _).alloc (Nat.le_refl _) _).alloc (by simp) _).alloc (by simp; omega) _

section
variable (k : Int) (b : Nat) (t : ByteArray) (k' : Int) (b' : Nat) (t' : ByteArray) (k2 : Int) (b2 : Nat) (t2 : ByteArray)
set_option maxHeartbeats 3200000 in
theorem vo_la (w : World) (h1 : 1000 < (t.size : Int)) : Calls Tryd.prog 5 #[V.val k b t, V.val k' b' t', V.val k2 b2 t2] w fun e w' => e = .returned (.bool true) ∧ Below w.heap.size w w' := by
  unfold V.val
  go_enter Tryd.func5, Tryd.ntmps5
  have HK := Lib.hid (W3.k9 w k b t k' b' t' k2 b2 t2)
  have HB := Lib.hid (W3.bel w k b t k' b' t' k2 b2 t2)
  go_wp2_with fail
  refine (v_awake _).mono ?_
  change ∀ e w', _ → _
  rintro e w1 ⟨rfl, g1⟩
  have HK1 := Lib.hid (HK.out.below g1)
  have HB1 := Lib.hid (HB.out.trans (g1.mono HB.out.size))
  clear HK HB g1
  obtain ⟨a1, a2, a3, a4, a5, a6, a7, a8, a9⟩ := HK1.out
  go_wp2_with fail
  clear a1 a2 a3 a4 a5 a6 a7 a8 a9
  refine (v_awake _).mono ?_
  rintro e z ⟨rfl, g⟩
  go_wp2_with fail
  go_ret
  exact ⟨rfl, HB1.out.trans (g.mono HB1.out.size)⟩
set_option maxHeartbeats 3200000 in
theorem vo_lb (w : World) (h1 : ¬ 1000 < (t.size : Int)) (h2 : 1000 < (t'.size : Int)) : Calls Tryd.prog 5 #[V.val k b t, V.val k' b' t', V.val k2 b2 t2] w fun e w' => e = .returned (.bool true) ∧ Below w.heap.size w w' := by
  unfold V.val
  go_enter Tryd.func5, Tryd.ntmps5
  have HK := Lib.hid (W3.k9 w k b t k' b' t' k2 b2 t2)
  have HB := Lib.hid (W3.bel w k b t k' b' t' k2 b2 t2)
  go_wp2_with fail
  refine (v_awake _).mono ?_
  change ∀ e w', _ → _
  rintro e w1 ⟨rfl, g1⟩
  have HK1 := Lib.hid (HK.out.below g1)
  have HB1 := Lib.hid (HB.out.trans (g1.mono HB.out.size))
  clear HK HB g1
  obtain ⟨a1, a2, a3, a4, a5, a6, a7, a8, a9⟩ := HK1.out
  go_wp2_with fail
  clear a1 a2 a3 a4 a5 a6 a7 a8 a9
  refine (v_awake _).mono ?_
  rintro e z ⟨rfl, g⟩
  go_wp2_with fail
  go_ret
  exact ⟨rfl, HB1.out.trans (g.mono HB1.out.size)⟩
set_option maxHeartbeats 3200000 in
theorem vo_lc (w : World) (h1 : ¬ 1000 < (t.size : Int)) (h2 : ¬ 1000 < (t'.size : Int)) (h3 : 1000 < (t2.size : Int)) : Calls Tryd.prog 5 #[V.val k b t, V.val k' b' t', V.val k2 b2 t2] w fun e w' => e = .returned (.bool true) ∧ Below w.heap.size w w' := by
  unfold V.val
  go_enter Tryd.func5, Tryd.ntmps5
  have HK := Lib.hid (W3.k9 w k b t k' b' t' k2 b2 t2)
  have HB := Lib.hid (W3.bel w k b t k' b' t' k2 b2 t2)
  go_wp2_with fail
  refine (v_awake _).mono ?_
  change ∀ e w', _ → _
  rintro e w1 ⟨rfl, g1⟩
  have HK1 := Lib.hid (HK.out.below g1)
  have HB1 := Lib.hid (HB.out.trans (g1.mono HB.out.size))
  clear HK HB g1
  obtain ⟨a1, a2, a3, a4, a5, a6, a7, a8, a9⟩ := HK1.out
  go_wp2_with fail
  clear a1 a2 a3 a4 a5 a6 a7 a8 a9
  refine (v_awake _).mono ?_
  rintro e z ⟨rfl, g⟩
  go_wp2_with fail
  go_ret
  exact ⟨rfl, HB1.out.trans (g.mono HB1.out.size)⟩
set_option maxHeartbeats 3200000 in
theorem vo_f0 (w : World) (hT : Tabs w) (h1 : ¬ 1000 < (t.size : Int)) (h2 : ¬ 1000 < (t'.size : Int)) (h3 : ¬ 1000 < (t2.size : Int)) (f0 : V.formed k b t.data.toList = false) : Calls Tryd.prog 5 #[V.val k b t, V.val k' b' t', V.val k2 b2 t2] w fun e w' => e = .returned (.bool true) ∧ Below w.heap.size w w' := by
  have HF0 := Lib.hid f0
  have HT := Lib.hid hT
  clear hT f0
  unfold V.val
  go_enter Tryd.func5, Tryd.ntmps5
  have HK := Lib.hid (W3.k9 w k b t k' b' t' k2 b2 t2)
  have HB := Lib.hid (W3.bel w k b t k' b' t' k2 b2 t2)
  go_wp2_with fail
  refine (v_awake _).mono ?_
  change ∀ e w', _ → _
  rintro e w1 ⟨rfl, g1⟩
  have HK1 := Lib.hid (HK.out.below g1)
  have HB1 := Lib.hid (HB.out.trans (g1.mono HB.out.size))
  clear HK HB g1
  obtain ⟨a1, a2, a3, a4, a5, a6, a7, a8, a9⟩ := HK1.out
  go_wp2_with fail
  clear a1 a2 a3 a4 a5 a6 a7 a8 a9
  refine (formed_any k b t _ (HT.out.below HB1.out)).mono ?_
  rw [HF0.out]
  rintro e w2 ⟨rfl, g⟩
  have HK2 := Lib.hid (HK1.out.below g)
  have HB2 := Lib.hid (HB1.out.trans (g.mono HB1.out.size))
  clear HK1 HB1 g
  obtain ⟨a1, a2, a3, a4, a5, a6, a7, a8, a9⟩ := HK2.out
  go_wp2_with fail
  clear a1 a2 a3 a4 a5 a6 a7 a8 a9
  refine (v_awake _).mono ?_
  rintro e z ⟨rfl, g⟩
  go_wp2_with fail
  go_ret
  exact ⟨rfl, HB2.out.trans (g.mono HB2.out.size)⟩
set_option maxHeartbeats 3200000 in
theorem vo_f1 (w : World) (hT : Tabs w) (h1 : ¬ 1000 < (t.size : Int)) (h2 : ¬ 1000 < (t'.size : Int)) (h3 : ¬ 1000 < (t2.size : Int)) (f0 : V.formed k b t.data.toList = true) (f1 : V.formed k' b' t'.data.toList = false) : Calls Tryd.prog 5 #[V.val k b t, V.val k' b' t', V.val k2 b2 t2] w fun e w' => e = .returned (.bool true) ∧ Below w.heap.size w w' := by
  have HF0 := Lib.hid f0
  have HF1 := Lib.hid f1
  have HT := Lib.hid hT
  clear hT f0 f1
  unfold V.val
  go_enter Tryd.func5, Tryd.ntmps5
  have HK := Lib.hid (W3.k9 w k b t k' b' t' k2 b2 t2)
  have HB := Lib.hid (W3.bel w k b t k' b' t' k2 b2 t2)
  go_wp2_with fail
  refine (v_awake _).mono ?_
  change ∀ e w', _ → _
  rintro e w1 ⟨rfl, g1⟩
  have HK1 := Lib.hid (HK.out.below g1)
  have HB1 := Lib.hid (HB.out.trans (g1.mono HB.out.size))
  clear HK HB g1
  obtain ⟨a1, a2, a3, a4, a5, a6, a7, a8, a9⟩ := HK1.out
  go_wp2_with fail
  clear a1 a2 a3 a4 a5 a6 a7 a8 a9
  refine (formed_any k b t _ (HT.out.below HB1.out)).mono ?_
  rw [HF0.out]
  rintro e w2 ⟨rfl, g⟩
  have HK2 := Lib.hid (HK1.out.below g)
  have HB2 := Lib.hid (HB1.out.trans (g.mono HB1.out.size))
  clear HK1 HB1 g
  obtain ⟨a1, a2, a3, a4, a5, a6, a7, a8, a9⟩ := HK2.out
  go_wp2_with fail
  clear a1 a2 a3 a4 a5 a6 a7 a8 a9
  refine (formed_any k' b' t' _ (HT.out.below HB2.out)).mono ?_
  rw [HF1.out]
  rintro e w3 ⟨rfl, g⟩
  have HK3 := Lib.hid (HK2.out.below g)
  have HB3 := Lib.hid (HB2.out.trans (g.mono HB2.out.size))
  clear HK2 HB2 g
  obtain ⟨a1, a2, a3, a4, a5, a6, a7, a8, a9⟩ := HK3.out
  go_wp2_with fail
  clear a1 a2 a3 a4 a5 a6 a7 a8 a9
  refine (v_awake _).mono ?_
  rintro e z ⟨rfl, g⟩
  go_wp2_with fail
  go_ret
  exact ⟨rfl, HB3.out.trans (g.mono HB3.out.size)⟩
set_option maxHeartbeats 3200000 in
theorem vo_f2 (w : World) (hT : Tabs w) (h1 : ¬ 1000 < (t.size : Int)) (h2 : ¬ 1000 < (t'.size : Int)) (h3 : ¬ 1000 < (t2.size : Int)) (f0 : V.formed k b t.data.toList = true) (f1 : V.formed k' b' t'.data.toList = true) (f2 : V.formed k2 b2 t2.data.toList = false) : Calls Tryd.prog 5 #[V.val k b t, V.val k' b' t', V.val k2 b2 t2] w fun e w' => e = .returned (.bool true) ∧ Below w.heap.size w w' := by
  have HF0 := Lib.hid f0
  have HF1 := Lib.hid f1
  have HF2 := Lib.hid f2
  have HT := Lib.hid hT
  clear hT f0 f1 f2
  unfold V.val
  go_enter Tryd.func5, Tryd.ntmps5
  have HK := Lib.hid (W3.k9 w k b t k' b' t' k2 b2 t2)
  have HB := Lib.hid (W3.bel w k b t k' b' t' k2 b2 t2)
  go_wp2_with fail
  refine (v_awake _).mono ?_
  change ∀ e w', _ → _
  rintro e w1 ⟨rfl, g1⟩
  have HK1 := Lib.hid (HK.out.below g1)
  have HB1 := Lib.hid (HB.out.trans (g1.mono HB.out.size))
  clear HK HB g1
  obtain ⟨a1, a2, a3, a4, a5, a6, a7, a8, a9⟩ := HK1.out
  go_wp2_with fail
  clear a1 a2 a3 a4 a5 a6 a7 a8 a9
  refine (formed_any k b t _ (HT.out.below HB1.out)).mono ?_
  rw [HF0.out]
  rintro e w2 ⟨rfl, g⟩
  have HK2 := Lib.hid (HK1.out.below g)
  have HB2 := Lib.hid (HB1.out.trans (g.mono HB1.out.size))
  clear HK1 HB1 g
  obtain ⟨a1, a2, a3, a4, a5, a6, a7, a8, a9⟩ := HK2.out
  go_wp2_with fail
  clear a1 a2 a3 a4 a5 a6 a7 a8 a9
  refine (formed_any k' b' t' _ (HT.out.below HB2.out)).mono ?_
  rw [HF1.out]
  rintro e w3 ⟨rfl, g⟩
  have HK3 := Lib.hid (HK2.out.below g)
  have HB3 := Lib.hid (HB2.out.trans (g.mono HB2.out.size))
  clear HK2 HB2 g
  obtain ⟨a1, a2, a3, a4, a5, a6, a7, a8, a9⟩ := HK3.out
  go_wp2_with fail
  clear a1 a2 a3 a4 a5 a6 a7 a8 a9
  refine (formed_any k2 b2 t2 _ (HT.out.below HB3.out)).mono ?_
  rw [HF2.out]
  rintro e w4 ⟨rfl, g⟩
  have HK4 := Lib.hid (HK3.out.below g)
  have HB4 := Lib.hid (HB3.out.trans (g.mono HB3.out.size))
  clear HK3 HB3 g
  obtain ⟨a1, a2, a3, a4, a5, a6, a7, a8, a9⟩ := HK4.out
  go_wp2_with fail
  clear a1 a2 a3 a4 a5 a6 a7 a8 a9
  refine (v_awake _).mono ?_
  rintro e z ⟨rfl, g⟩
  go_wp2_with fail
  go_ret
  exact ⟨rfl, HB4.out.trans (g.mono HB4.out.size)⟩
end
end Go.Proofs.YtdoclbonbjkomaaDoor
