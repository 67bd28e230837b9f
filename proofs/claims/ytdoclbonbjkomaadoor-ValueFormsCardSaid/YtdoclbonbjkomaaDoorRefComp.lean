/- The walk of the reference's Compare. Condition: bits are a uint64. -/
import Derived.Test.YtdoclbonbjkomaaDoorRefForm
import Derived.Test.YtdoclbonbjkomaaDoorValPlain
import Derived.Test.YtdoclbonbjkomaaDoorEqv
namespace Go.Proofs.YtdoclbonbjkomaaDoor
open Go.RowKit
set_option linter.unusedSimpArgs false
set_option linter.unusedVariables false

section
variable (k : Int) (b : Nat) (t : ByteArray) (k' : Int) (b' : Nat) (t' : ByteArray) (w : World) (bb : b < 18446744073709551616) (bb' : b' < 18446744073709551616)
set_option maxHeartbeats 1600000 in
theorem rc_f0 (bb : b < 18446744073709551616) (f0 : V.formed k b t.data.toList = false) :
    Calls Tryd.prog 13 #[.agg #[.int .i64 k, .int .u64 b, .string t], .agg #[.int .i64 k', .int .u64 b', .string t']] w fun e w' => e = .returned (.int .i64 0) ∧ Below w.heap.size w w' := by
  have HF := Lib.hid (fun z => rformed_any k b bb t z)
  rw [f0] at HF
  unfold V.val at HF
  clear f0
  go_enter Tryd.func13, Tryd.ntmps13
  go_wp2_with fail
  have g0 := ((Below.refl w.heap.size w).alloc (Nat.le_refl _) (.cells #[.int .i64 k, .int .u64 b, .string t] 27)).alloc (by simp) (.cells #[.int .i64 k', .int .u64 b', .string t'] 27)
  refine (HF.out _).mono ?_
  rintro e w1 ⟨rfl, b1⟩
  go_wp2_with fail
  go_ret
  exact ⟨rfl, g0.trans (b1.mono g0.size)⟩
set_option maxHeartbeats 1600000 in
theorem rc_f1 (bb : b < 18446744073709551616) (bb' : b' < 18446744073709551616) (f0 : V.formed k b t.data.toList = true) (f1 : V.formed k' b' t'.data.toList = false) :
    Calls Tryd.prog 13 #[.agg #[.int .i64 k, .int .u64 b, .string t], .agg #[.int .i64 k', .int .u64 b', .string t']] w fun e w' => e = .returned (.int .i64 0) ∧ Below w.heap.size w w' := by
  have HF := Lib.hid (fun z => rformed_any k b bb t z)
  have HF' := Lib.hid (fun z => rformed_any k' b' bb' t' z)
  rw [f0] at HF
  rw [f1] at HF'
  unfold V.val at HF HF'
  clear f0 f1
  have c1 := Lib.hid (cell33 w (.int .i64 k) (.int .u64 b) (.string t) (.int .i64 k') (.int .u64 b') (.string t') 27)
  go_enter Tryd.func13, Tryd.ntmps13
  go_wp2_with fail
  have g0 := ((Below.refl w.heap.size w).alloc (Nat.le_refl _) (.cells #[.int .i64 k, .int .u64 b, .string t] 27)).alloc (by simp) (.cells #[.int .i64 k', .int .u64 b', .string t'] 27)
  refine (HF.out _).mono ?_
  rintro e w1 ⟨rfl, b1⟩
  obtain ⟨_, _, _, a4, a5, a6⟩ := c1.out
  have d4 := cellB b1 a4
  have d5 := cellB b1 a5
  have d6 := cellB b1 a6
  clear a4 a5 a6 c1
  go_wp2_with fail
  clear d4 d5 d6
  refine (HF'.out _).mono ?_
  rintro e w2 ⟨rfl, b2⟩
  go_wp2_with fail
  go_ret
  have g1 := g0.trans (b1.mono g0.size)
  exact ⟨rfl, g1.trans (b2.mono g1.size)⟩
end
set_option maxHeartbeats 1600000 in
theorem rc_eq (k : Int) (b : Nat) (t : ByteArray) (w : World) (bb : b < 18446744073709551616) (f0 : V.formed k b t.data.toList = true)  :
    Calls Tryd.prog 13 #[.agg #[.int .i64 k, .int .u64 b, .string t], .agg #[.int .i64 k, .int .u64 b, .string t]] w fun e w' => e = .returned (.int .i64 0) ∧ Below w.heap.size w w' := by
  have HF := Lib.hid (fun z => rformed_any k b bb t z)
  rw [f0] at HF
  have HF' := HF
  unfold V.val at HF HF'
  clear f0
  have heq : ∀ z, (binOp .eql 27 (.agg #[.int .i64 k, .int .u64 b, .string t]) (.agg #[.int .i64 k, .int .u64 b, .string t])).run Tryd.prog z = .ok (.bool true) z := fun z => by rw [V.run_eqv]; simp [*]
  have c1 := Lib.hid (cell33 w (.int .i64 k) (.int .u64 b) (.string t) (.int .i64 k) (.int .u64 b) (.string t) 27)
  go_enter Tryd.func13, Tryd.ntmps13
  go_wp2_with fail
  have g0 := ((Below.refl w.heap.size w).alloc (Nat.le_refl _) (.cells #[.int .i64 k, .int .u64 b, .string t] 27)).alloc (by simp) (.cells #[.int .i64 k, .int .u64 b, .string t] 27)
  refine (HF.out _).mono ?_
  rintro e w1 ⟨rfl, b1⟩
  obtain ⟨a1, a2, a3, a4, a5, a6⟩ := c1.out
  have d1 := cellB b1 a1
  have d2 := cellB b1 a2
  have d3 := cellB b1 a3
  have d4 := cellB b1 a4
  have d5 := cellB b1 a5
  have d6 := cellB b1 a6
  clear a1 a2 a3 a4 a5 a6 c1
  have DD := Lib.hid (And.intro d1 (And.intro d2 (And.intro d3 (And.intro d4 (And.intro d5 d6)))))
  go_wp2_with fail
  clear d1 d2 d3 d4 d5 d6
  refine (HF'.out _).mono ?_
  rintro e w2 ⟨rfl, b2⟩
  obtain ⟨a1, a2, a3, a4, a5, a6⟩ := DD.out
  have d1 := cellB b2 a1
  have d2 := cellB b2 a2
  have d3 := cellB b2 a3
  have d4 := cellB b2 a4
  have d5 := cellB b2 a5
  have d6 := cellB b2 a6
  clear a1 a2 a3 a4 a5 a6 DD
  have g1 := g0.trans (b1.mono g0.size)
  have g2 := g1.trans (b2.mono g1.size)
  go_wp2_with fail
  go_ret
  exact ⟨rfl, g2⟩
set_option maxHeartbeats 1600000 in
theorem rc_lt (k : Int) (b : Nat) (t : ByteArray) (k' : Int) (b' : Nat) (t' : ByteArray) (w : World) (bb : b < 18446744073709551616) (bb' : b' < 18446744073709551616) (f0 : V.formed k b t.data.toList = true) (f1 : V.formed k' b' t'.data.toList = true) (hk : k < k') (hne : ¬ k = k') :
    Calls Tryd.prog 13 #[.agg #[.int .i64 k, .int .u64 b, .string t], .agg #[.int .i64 k', .int .u64 b', .string t']] w fun e w' => e = .returned (.int .i64 (-1)) ∧ Below w.heap.size w w' := by
  have HF := Lib.hid (fun z => rformed_any k b bb t z)
  rw [f0] at HF
  have HF' := Lib.hid (fun z => rformed_any k' b' bb' t' z)
  rw [f1] at HF'
  unfold V.val at HF HF'
  clear f0 f1
  have heq : ∀ z, (binOp .eql 27 (.agg #[.int .i64 k, .int .u64 b, .string t]) (.agg #[.int .i64 k', .int .u64 b', .string t'])).run Tryd.prog z = .ok (.bool false) z := fun z => by rw [V.run_eqv]; simp [*]
  have c1 := Lib.hid (cell33 w (.int .i64 k) (.int .u64 b) (.string t) (.int .i64 k') (.int .u64 b') (.string t') 27)
  go_enter Tryd.func13, Tryd.ntmps13
  go_wp2_with fail
  have g0 := ((Below.refl w.heap.size w).alloc (Nat.le_refl _) (.cells #[.int .i64 k, .int .u64 b, .string t] 27)).alloc (by simp) (.cells #[.int .i64 k', .int .u64 b', .string t'] 27)
  refine (HF.out _).mono ?_
  rintro e w1 ⟨rfl, b1⟩
  obtain ⟨a1, a2, a3, a4, a5, a6⟩ := c1.out
  have d1 := cellB b1 a1
  have d2 := cellB b1 a2
  have d3 := cellB b1 a3
  have d4 := cellB b1 a4
  have d5 := cellB b1 a5
  have d6 := cellB b1 a6
  clear a1 a2 a3 a4 a5 a6 c1
  have DD := Lib.hid (And.intro d1 (And.intro d2 (And.intro d3 (And.intro d4 (And.intro d5 d6)))))
  go_wp2_with fail
  clear d1 d2 d3 d4 d5 d6
  refine (HF'.out _).mono ?_
  rintro e w2 ⟨rfl, b2⟩
  obtain ⟨a1, a2, a3, a4, a5, a6⟩ := DD.out
  have d1 := cellB b2 a1
  have d2 := cellB b2 a2
  have d3 := cellB b2 a3
  have d4 := cellB b2 a4
  have d5 := cellB b2 a5
  have d6 := cellB b2 a6
  clear a1 a2 a3 a4 a5 a6 DD
  have g1 := g0.trans (b1.mono g0.size)
  have g2 := g1.trans (b2.mono g1.size)
  go_wp2_with fail
  go_ret
  exact ⟨rfl, g2⟩
set_option maxHeartbeats 1600000 in
theorem rc_gt (k : Int) (b : Nat) (t : ByteArray) (k' : Int) (b' : Nat) (t' : ByteArray) (w : World) (bb : b < 18446744073709551616) (bb' : b' < 18446744073709551616) (f0 : V.formed k b t.data.toList = true) (f1 : V.formed k' b' t'.data.toList = true) (hk : k' < k) (hn : ¬ k < k') (hne : ¬ k = k') :
    Calls Tryd.prog 13 #[.agg #[.int .i64 k, .int .u64 b, .string t], .agg #[.int .i64 k', .int .u64 b', .string t']] w fun e w' => e = .returned (.int .i64 1) ∧ Below w.heap.size w w' := by
  have HF := Lib.hid (fun z => rformed_any k b bb t z)
  rw [f0] at HF
  have HF' := Lib.hid (fun z => rformed_any k' b' bb' t' z)
  rw [f1] at HF'
  unfold V.val at HF HF'
  clear f0 f1
  have heq : ∀ z, (binOp .eql 27 (.agg #[.int .i64 k, .int .u64 b, .string t]) (.agg #[.int .i64 k', .int .u64 b', .string t'])).run Tryd.prog z = .ok (.bool false) z := fun z => by rw [V.run_eqv]; simp [*]
  have c1 := Lib.hid (cell33 w (.int .i64 k) (.int .u64 b) (.string t) (.int .i64 k') (.int .u64 b') (.string t') 27)
  go_enter Tryd.func13, Tryd.ntmps13
  go_wp2_with fail
  have g0 := ((Below.refl w.heap.size w).alloc (Nat.le_refl _) (.cells #[.int .i64 k, .int .u64 b, .string t] 27)).alloc (by simp) (.cells #[.int .i64 k', .int .u64 b', .string t'] 27)
  refine (HF.out _).mono ?_
  rintro e w1 ⟨rfl, b1⟩
  obtain ⟨a1, a2, a3, a4, a5, a6⟩ := c1.out
  have d1 := cellB b1 a1
  have d2 := cellB b1 a2
  have d3 := cellB b1 a3
  have d4 := cellB b1 a4
  have d5 := cellB b1 a5
  have d6 := cellB b1 a6
  clear a1 a2 a3 a4 a5 a6 c1
  have DD := Lib.hid (And.intro d1 (And.intro d2 (And.intro d3 (And.intro d4 (And.intro d5 d6)))))
  go_wp2_with fail
  clear d1 d2 d3 d4 d5 d6
  refine (HF'.out _).mono ?_
  rintro e w2 ⟨rfl, b2⟩
  obtain ⟨a1, a2, a3, a4, a5, a6⟩ := DD.out
  have d1 := cellB b2 a1
  have d2 := cellB b2 a2
  have d3 := cellB b2 a3
  have d4 := cellB b2 a4
  have d5 := cellB b2 a5
  have d6 := cellB b2 a6
  clear a1 a2 a3 a4 a5 a6 DD
  have g1 := g0.trans (b1.mono g0.size)
  have g2 := g1.trans (b2.mono g1.size)
  go_wp2_with fail
  go_ret
  exact ⟨rfl, g2⟩
set_option maxHeartbeats 1600000 in
theorem rc_num (b : Nat) (t : ByteArray) (b' : Nat) (t' : ByteArray) (w : World) (bb : b < 18446744073709551616) (bb' : b' < 18446744073709551616) (f0 : V.formed 1 b t.data.toList = true) (f1 : V.formed 1 b' t'.data.toList = true) (hne : ¬ b = b') :
    Calls Tryd.prog 13 #[.agg #[.int .i64 1, .int .u64 b, .string t], .agg #[.int .i64 1, .int .u64 b', .string t']] w fun e w' => e = .returned (.int .i64 (V.cmp (V.nkey b) (V.nkey b'))) ∧ Below w.heap.size w w' := by
  have HF := Lib.hid (fun z => rformed_any 1 b bb t z)
  rw [f0] at HF
  have HF' := Lib.hid (fun z => rformed_any 1 b' bb' t' z)
  rw [f1] at HF'
  unfold V.val at HF HF'
  clear f0 f1
  have heq : ∀ z, (binOp .eql 27 (.agg #[.int .i64 1, .int .u64 b, .string t]) (.agg #[.int .i64 1, .int .u64 b', .string t'])).run Tryd.prog z = .ok (.bool false) z := fun z => by rw [V.run_eqv]; simp [*]
  have c1 := Lib.hid (cell33 w (.int .i64 1) (.int .u64 b) (.string t) (.int .i64 1) (.int .u64 b') (.string t') 27)
  go_enter Tryd.func13, Tryd.ntmps13
  go_wp2_with fail
  have g0 := ((Below.refl w.heap.size w).alloc (Nat.le_refl _) (.cells #[.int .i64 1, .int .u64 b, .string t] 27)).alloc (by simp) (.cells #[.int .i64 1, .int .u64 b', .string t'] 27)
  refine (HF.out _).mono ?_
  rintro e w1 ⟨rfl, b1⟩
  obtain ⟨a1, a2, a3, a4, a5, a6⟩ := c1.out
  have d1 := cellB b1 a1
  have d2 := cellB b1 a2
  have d3 := cellB b1 a3
  have d4 := cellB b1 a4
  have d5 := cellB b1 a5
  have d6 := cellB b1 a6
  clear a1 a2 a3 a4 a5 a6 c1
  have DD := Lib.hid (And.intro d1 (And.intro d2 (And.intro d3 (And.intro d4 (And.intro d5 d6)))))
  go_wp2_with fail
  clear d1 d2 d3 d4 d5 d6
  refine (HF'.out _).mono ?_
  rintro e w2 ⟨rfl, b2⟩
  obtain ⟨a1, a2, a3, a4, a5, a6⟩ := DD.out
  have d1 := cellB b2 a1
  have d2 := cellB b2 a2
  have d3 := cellB b2 a3
  have d4 := cellB b2 a4
  have d5 := cellB b2 a5
  have d6 := cellB b2 a6
  clear a1 a2 a3 a4 a5 a6 DD
  have g1 := g0.trans (b1.mono g0.size)
  have g2 := g1.trans (b2.mono g1.size)
  go_wp2_with fail
  refine (rorder_any b b' bb bb' _).mono ?_
  rintro e w3 ⟨rfl, rfl⟩
  go_wp2_with fail
  go_ret
  exact ⟨rfl, g2⟩
set_option maxHeartbeats 1600000 in
theorem rc_tlt (b : Nat) (t : ByteArray) (t' : ByteArray) (w : World) (bb : b < 18446744073709551616) (f0 : V.formed 2 b t.data.toList = true) (f1 : V.formed 2 b t'.data.toList = true) (hne : ¬ t.toList = t'.toList) (hl : Op.bytesLess t.toList t'.toList = true) :
    Calls Tryd.prog 13 #[.agg #[.int .i64 2, .int .u64 b, .string t], .agg #[.int .i64 2, .int .u64 b, .string t']] w fun e w' => e = .returned (.int .i64 (-1)) ∧ Below w.heap.size w w' := by
  have HF := Lib.hid (fun z => rformed_any 2 b bb t z)
  rw [f0] at HF
  have HF' := Lib.hid (fun z => rformed_any 2 b bb t' z)
  rw [f1] at HF'
  unfold V.val at HF HF'
  clear f0 f1
  have heq : ∀ z, (binOp .eql 27 (.agg #[.int .i64 2, .int .u64 b, .string t]) (.agg #[.int .i64 2, .int .u64 b, .string t'])).run Tryd.prog z = .ok (.bool false) z := fun z => by rw [V.run_eqv]; simp [*]
  have c1 := Lib.hid (cell33 w (.int .i64 2) (.int .u64 b) (.string t) (.int .i64 2) (.int .u64 b) (.string t') 27)
  go_enter Tryd.func13, Tryd.ntmps13
  go_wp2_with fail
  have g0 := ((Below.refl w.heap.size w).alloc (Nat.le_refl _) (.cells #[.int .i64 2, .int .u64 b, .string t] 27)).alloc (by simp) (.cells #[.int .i64 2, .int .u64 b, .string t'] 27)
  refine (HF.out _).mono ?_
  rintro e w1 ⟨rfl, b1⟩
  obtain ⟨a1, a2, a3, a4, a5, a6⟩ := c1.out
  have d1 := cellB b1 a1
  have d2 := cellB b1 a2
  have d3 := cellB b1 a3
  have d4 := cellB b1 a4
  have d5 := cellB b1 a5
  have d6 := cellB b1 a6
  clear a1 a2 a3 a4 a5 a6 c1
  have DD := Lib.hid (And.intro d1 (And.intro d2 (And.intro d3 (And.intro d4 (And.intro d5 d6)))))
  go_wp2_with fail
  clear d1 d2 d3 d4 d5 d6
  refine (HF'.out _).mono ?_
  rintro e w2 ⟨rfl, b2⟩
  obtain ⟨a1, a2, a3, a4, a5, a6⟩ := DD.out
  have d1 := cellB b2 a1
  have d2 := cellB b2 a2
  have d3 := cellB b2 a3
  have d4 := cellB b2 a4
  have d5 := cellB b2 a5
  have d6 := cellB b2 a6
  clear a1 a2 a3 a4 a5 a6 DD
  have g1 := g0.trans (b1.mono g0.size)
  have g2 := g1.trans (b2.mono g1.size)
  go_wp2_with fail
  go_ret
  exact ⟨rfl, g2⟩
set_option maxHeartbeats 1600000 in
theorem rc_tge (b : Nat) (t : ByteArray) (t' : ByteArray) (w : World) (bb : b < 18446744073709551616) (f0 : V.formed 2 b t.data.toList = true) (f1 : V.formed 2 b t'.data.toList = true) (hne : ¬ t.toList = t'.toList) (hl : Op.bytesLess t.toList t'.toList = false) :
    Calls Tryd.prog 13 #[.agg #[.int .i64 2, .int .u64 b, .string t], .agg #[.int .i64 2, .int .u64 b, .string t']] w fun e w' => e = .returned (.int .i64 1) ∧ Below w.heap.size w w' := by
  have HF := Lib.hid (fun z => rformed_any 2 b bb t z)
  rw [f0] at HF
  have HF' := Lib.hid (fun z => rformed_any 2 b bb t' z)
  rw [f1] at HF'
  unfold V.val at HF HF'
  clear f0 f1
  have heq : ∀ z, (binOp .eql 27 (.agg #[.int .i64 2, .int .u64 b, .string t]) (.agg #[.int .i64 2, .int .u64 b, .string t'])).run Tryd.prog z = .ok (.bool false) z := fun z => by rw [V.run_eqv]; simp [*]
  have c1 := Lib.hid (cell33 w (.int .i64 2) (.int .u64 b) (.string t) (.int .i64 2) (.int .u64 b) (.string t') 27)
  go_enter Tryd.func13, Tryd.ntmps13
  go_wp2_with fail
  have g0 := ((Below.refl w.heap.size w).alloc (Nat.le_refl _) (.cells #[.int .i64 2, .int .u64 b, .string t] 27)).alloc (by simp) (.cells #[.int .i64 2, .int .u64 b, .string t'] 27)
  refine (HF.out _).mono ?_
  rintro e w1 ⟨rfl, b1⟩
  obtain ⟨a1, a2, a3, a4, a5, a6⟩ := c1.out
  have d1 := cellB b1 a1
  have d2 := cellB b1 a2
  have d3 := cellB b1 a3
  have d4 := cellB b1 a4
  have d5 := cellB b1 a5
  have d6 := cellB b1 a6
  clear a1 a2 a3 a4 a5 a6 c1
  have DD := Lib.hid (And.intro d1 (And.intro d2 (And.intro d3 (And.intro d4 (And.intro d5 d6)))))
  go_wp2_with fail
  clear d1 d2 d3 d4 d5 d6
  refine (HF'.out _).mono ?_
  rintro e w2 ⟨rfl, b2⟩
  obtain ⟨a1, a2, a3, a4, a5, a6⟩ := DD.out
  have d1 := cellB b2 a1
  have d2 := cellB b2 a2
  have d3 := cellB b2 a3
  have d4 := cellB b2 a4
  have d5 := cellB b2 a5
  have d6 := cellB b2 a6
  clear a1 a2 a3 a4 a5 a6 DD
  have g1 := g0.trans (b1.mono g0.size)
  have g2 := g1.trans (b2.mono g1.size)
  go_wp2_with fail
  go_ret
  exact ⟨rfl, g2⟩
theorem rcompare_any (k : Int) (b : Nat) (t : ByteArray) (k' : Int) (b' : Nat) (t' : ByteArray) (w : World) (bb : b < 18446744073709551616) (bb' : b' < 18446744073709551616) :
    Calls Tryd.prog 13 #[V.val k b t, V.val k' b' t'] w fun e w' => e = .returned (.int .i64 (V.vcmp k b t.data.toList k' b' t'.data.toList)) ∧ Below w.heap.size w w' := by
  unfold V.val
  cases f0 : V.formed k b t.data.toList with
  | false =>
    rw [show V.vcmp k b t.data.toList k' b' t'.data.toList = 0 by unfold V.vcmp; rw [f0]; rfl]
    exact rc_f0 k b t k' b' t' w bb f0
  | true =>
    cases f1 : V.formed k' b' t'.data.toList with
    | false =>
      rw [show V.vcmp k b t.data.toList k' b' t'.data.toList = 0 by unfold V.vcmp; rw [f0, f1]; rfl]
      exact rc_f1 k b t k' b' t' w bb bb' f0 f1
    | true =>
      have hc := V.cmp_vals k k'
      have hv := V.vcmp_eq f0 f1
      by_cases h1 : k < k'
      · rw [hv, show V.or3 (V.cmp k k') (V.cmp (V.nkey b) (V.nkey b')) (V.cmps t.data.toList t'.data.toList) = -1 by unfold V.or3; rw [if_neg (by omega)]; omega]
        exact rc_lt k b t k' b' t' w bb bb' f0 f1 h1 (by omega)
      by_cases h2 : k' < k
      · rw [hv, show V.or3 (V.cmp k k') (V.cmp (V.nkey b) (V.nkey b')) (V.cmps t.data.toList t'.data.toList) = 1 by unfold V.or3; rw [if_neg (by omega)]; omega]
        exact rc_gt k b t k' b' t' w bb bb' f0 f1 h2 h1 (by omega)
      have hk : k = k' := by omega
      subst hk
      by_cases heq : b = b' ∧ t.data.toList = t'.data.toList
      · obtain ⟨rfl, e⟩ := heq
        have e : t = t' := by
          obtain ⟨⟨l⟩⟩ := t
          obtain ⟨⟨l'⟩⟩ := t'
          simp only at e
          rw [e]
        subst e
        rw [(V.vcmp_zero f0 f1 bb bb').2 ⟨rfl, rfl, rfl⟩]
        exact rc_eq k b t w bb f0
      · have g0 := f0
        have g1 := f1
        unfold V.formed at g0 g1
        by_cases k0 : k = 0
        · rw [if_pos k0] at g0 g1
          have a0 := of_decide_eq_true g0
          have a1 := of_decide_eq_true g1
          exact absurd ⟨a0.1.trans a1.1.symm, a0.2.trans a1.2.symm⟩ heq
        rw [if_neg k0] at g0 g1
        by_cases k1 : k = 1
        · rw [if_pos k1] at g0 g1
          subst k1
          have a0 := of_decide_eq_true g0
          have a1 := of_decide_eq_true g1
          have hne : ¬ b = b' := fun e => heq ⟨e, a0.1.trans a1.1.symm⟩
          rw [hv, show V.or3 (V.cmp 1 1) (V.cmp (V.nkey b) (V.nkey b')) (V.cmps t.data.toList t'.data.toList) = V.cmp (V.nkey b) (V.nkey b') by
            rw [a0.1, a1.1]
            unfold V.or3
            rw [if_pos (by omega)]
            split
            · rename_i h; rw [h]; rfl
            · rfl]
          exact rc_num b t b' t' w bb bb' f0 f1 hne
        rw [if_neg k1] at g0 g1
        by_cases k2 : k = 2
        · rw [if_pos k2, Bool.and_eq_true] at g0 g1
          subst k2
          have a0 := of_decide_eq_true g0.1
          have a1 := of_decide_eq_true g1.1
          have hb : b = b' := a0.1.trans a1.1.symm
          subst hb
          have hne : ¬ t.data.toList = t'.data.toList := fun e => heq ⟨rfl, e⟩
          have e0 := V.cmp_vals (V.nkey b) (V.nkey b)
          rw [hv, show V.or3 (V.cmp 2 2) (V.cmp (V.nkey b) (V.nkey b)) (V.cmps t.data.toList t'.data.toList) = V.cmps t.data.toList t'.data.toList by
            unfold V.or3
            rw [if_pos (by omega), if_pos (by omega)]]
          have hne' : ¬ t.toList = t'.toList := by rw [Lib.toList_data, Lib.toList_data]; exact hne
          cases hl : Op.bytesLess t.data.toList t'.data.toList with
          | true =>
            rw [show V.cmps t.data.toList t'.data.toList = -1 by unfold V.cmps; rw [hl]; rfl]
            exact rc_tlt b t t' w bb f0 f1 hne' (by rw [Lib.toList_data, Lib.toList_data]; exact hl)
          | false =>
            rw [show V.cmps t.data.toList t'.data.toList = 1 by
              have hz := V.cmps_zero t.data.toList t'.data.toList
              have hs := V.cmps_lt t.data.toList t'.data.toList
              have hw := V.cmps_vals t.data.toList t'.data.toList
              rw [hl] at hs
              have h3 : ¬ V.cmps t.data.toList t'.data.toList = 0 := fun e => hne (hz.1 e)
              have h4 : ¬ V.cmps t.data.toList t'.data.toList < 0 := fun e => Bool.noConfusion (hs.1 e)
              omega]
            exact rc_tge b t t' w bb f0 f1 hne' (by rw [Lib.toList_data, Lib.toList_data]; exact hl)
        · rw [if_neg k2] at g0
          exact Bool.noConfusion g0
end Go.Proofs.YtdoclbonbjkomaaDoor
