/- The walk of the law ValueOrder: the cases where all are formed. Printed by wip/tools/gen_vorder.py. -/
import Derived.Test.YtdoclbonbjkomaaDoorValOrdA
namespace Go.Proofs.YtdoclbonbjkomaaDoor
open Go.RowKit
set_option linter.unusedSimpArgs false
set_option linter.unusedVariables false
theorem ofDrew {B : Nat} {w w' : World} (h : Below B w.drew w') : Below B w w' := ⟨h.os, h.tape, h.output, h.size, h.block⟩
theorem run_eqv (k : Int) (b : Nat) (t : ByteArray) (k' : Int) (b' : Nat) (t' : ByteArray) (w : World) :
    (binOp .eql 27 (.agg #[.int .i64 k, .int .u64 b, .string t]) (.agg #[.int .i64 k', .int .u64 b', .string t'])).run Tryd.prog w = .ok (.bool (decide (k = k' ∧ b = b' ∧ t.toList = t'.toList))) w := by
  have hf : (Tryd.prog.fieldsOf 27).toList = [{ name := "Kind", type := 3, offset := 0, embedded := false, tag := "", pkgPath := "", byteOffset := 0 },
        { name := "Bits", type := 25, offset := 1, embedded := false, tag := "", pkgPath := "", byteOffset := 8 },
        { name := "Text", type := 9, offset := 2, embedded := false, tag := "", pkgPath := "", byteOffset := 16 }] := by kernel_rfl
  have h27 : Tryd.prog.underlying 27 = some (.struct (Tryd.prog.fieldsOf 27)) := by kernel_rfl
  have e := run_equalIn_struct (P := Tryd.prog) w 9999 27 #[.int .i64 k, .int .u64 b, .string t] #[.int .i64 k', .int .u64 b', .string t'] h27 (by kernel_rfl)
  rw [run_eql_struct, show (10000 : Nat) = 9999 + 1 from rfl, e, hf]
  have e0 : ∀ w, (Op.equalIn 9999 3 (.int .i64 k) (.int .i64 k')).run Tryd.prog w = .ok (k == k') w := fun w => run_equalIn_int w 9998 3 .i64 .i64 k k' Tryd.underlying3
  have e1 : ∀ w, (Op.equalIn 9999 25 (.int .u64 b) (.int .u64 b')).run Tryd.prog w = .ok ((b : Int) == (b' : Int)) w := fun w => run_equalIn_int w 9998 25 .u64 .u64 _ _ Tryd.underlying25
  have e2 : ∀ w, (Op.equalIn 9999 9 (.string t) (.string t')).run Tryd.prog w = .ok (t.toList == t'.toList) w := fun w => run_equalIn_string w 9998 9 t t' Tryd.underlying9
  have p0 : ∀ (x y z : Value) w, (part 3 #[x, y, z] 0).run Tryd.prog w = .ok x w := fun x y z w => by rfl
  have p1 : ∀ (x y z : Value) w, (part 25 #[x, y, z] 1).run Tryd.prog w = .ok y w := fun x y z w => by rfl
  have p2 : ∀ (x y z : Value) w, (part 9 #[x, y, z] 2).run Tryd.prog w = .ok z w := fun x y z w => by rfl
  generalize hd : (9999 : Nat) = d at *
  clear hd e
  by_cases hk : k = k'
  · subst hk
    by_cases hb : b = b'
    · subst hb
      by_cases ht : t.toList = t'.toList
      · simp [Op.eqFields, e0, e1, e2, p0, p1, p2, ht]
      · simp [Op.eqFields, e0, e1, e2, p0, p1, p2, ht]
    · simp [Op.eqFields, e0, e1, e2, p0, p1, p2, hb]
      exact fun h => absurd (by omega) hb
  · simp [Op.eqFields, e0, e1, e2, p0, p1, p2, hk]
section
variable (k : Int) (b : Nat) (t : ByteArray) (k' : Int) (b' : Nat) (t' : ByteArray) (k2 : Int) (b2 : Nat) (t2 : ByteArray)
set_option maxRecDepth 20000 in
set_option maxHeartbeats 3200000 in
theorem vo_eq_bc (w : World) (hT : Tabs w) (h1 : ¬ 1000 < (t.size : Int)) (h3 : ¬ 1000 < (t2.size : Int)) (f0 : V.formed k b t.data.toList = true) (f2 : V.formed k2 b2 t2.data.toList = true) (bb : b < 18446744073709551616) (bb2 : b2 < 18446744073709551616) (hab : V.vcmp k b t.data.toList k b t.data.toList = 0) (hbc : 0 < V.vcmp k b t.data.toList k2 b2 t2.data.toList) : Calls Tryd.prog 5 #[V.val k b t, V.val k b t, V.val k2 b2 t2] w fun e w' => e = .returned (.bool true) ∧ Below w.heap.size w w' := by
  have HF0 := Lib.hid f0
  have HF2 := Lib.hid f2
  have HF1 := HF0
  have HT := Lib.hid hT
  have HAB := Lib.hid (fun (z : World) (hz : Tabs z) => compare_any k b t k b t z hz bb bb)
  have HBA := Lib.hid (fun (z : World) (hz : Tabs z) => compare_any k b t k b t z hz bb bb)
  rw [hab] at HAB
  rw [hab] at HBA
  have HBC := Lib.hid (fun (z : World) (hz : Tabs z) => compare_any k b t k2 b2 t2 z hz bb bb2)
  obtain ⟨pbc, hpbc⟩ : ∃ x, x = V.vcmp k b t.data.toList k2 b2 t2.data.toList := ⟨_, rfl⟩
  rw [← hpbc] at HBC hbc
  clear hpbc
  clear hT f0 f2 hab
  unfold V.val at *
  go_enter Tryd.func5, Tryd.ntmps5
  have HK := Lib.hid (W3.k9 w k b t k b t k2 b2 t2)
  have HB := Lib.hid (W3.bel w k b t k b t k2 b2 t2)
  go_wp2_with fail
  refine (v_awake _).mono ?_
  change ∀ e w', _ → _
  rintro e w1 ⟨rfl, g1⟩
  have HK1 := Lib.hid (HK.out.below g1)
  have HB1 := Lib.hid (HB.out.trans (g1.mono HB.out.size))
  clear HK HB g1
  obtain ⟨a1, a2, a3, a4, a5, a6, a7, a8, a9⟩ := HK1.out
  go_wp2_with fail
  clear a1 a2 a3 a4 a5 a6 a7 a8 a9
  refine (formed_any k b t _ (HT.out.below HB1.out)).mono ?_
  rw [HF0.out]
  rintro e w2 ⟨rfl, g⟩
  have HK2 := Lib.hid (HK1.out.below g)
  have HB2 := Lib.hid (HB1.out.trans (g.mono HB1.out.size))
  clear HK1 HB1 g
  obtain ⟨a1, a2, a3, a4, a5, a6, a7, a8, a9⟩ := HK2.out
  go_wp2_with fail
  clear a1 a2 a3 a4 a5 a6 a7 a8 a9
  refine (formed_any k b t _ (HT.out.below HB2.out)).mono ?_
  rw [HF1.out]
  rintro e w3 ⟨rfl, g⟩
  have HK3 := Lib.hid (HK2.out.below g)
  have HB3 := Lib.hid (HB2.out.trans (g.mono HB2.out.size))
  clear HK2 HB2 g
  obtain ⟨a1, a2, a3, a4, a5, a6, a7, a8, a9⟩ := HK3.out
  go_wp2_with fail
  clear a1 a2 a3 a4 a5 a6 a7 a8 a9
  refine (formed_any k2 b2 t2 _ (HT.out.below HB3.out)).mono ?_
  rw [HF2.out]
  rintro e w4 ⟨rfl, g⟩
  have HK4 := Lib.hid (HK3.out.below g)
  have HB4 := Lib.hid (HB3.out.trans (g.mono HB3.out.size))
  clear HK3 HB3 g
  obtain ⟨a1, a2, a3, a4, a5, a6, a7, a8, a9⟩ := HK4.out
  go_wp2_with fail
  clear a1 a2 a3 a4 a5 a6 a7 a8 a9
  have heq : ∀ z, (binOp .eql 27 (.agg #[.int .i64 k, .int .u64 b, .string t]) (.agg #[.int .i64 k, .int .u64 b, .string t])).run Tryd.prog z = .ok (.bool true) z := fun z => by rw [run_eqv]; simp []
  have hw0 : IntKind.i64.wrap 0 = 0 := by rfl
  have hw1 : IntKind.i64.wrap 1 = 1 := by rfl
  have hw2 : IntKind.i64.wrap (-1) = -1 := by rfl
  have kk := HK4.out
  have bz := HB4.out
  have tk0 : True := trivial
  have tk1 : True := trivial
  go_region_held3 (fun w' => w'.cell? ⟨w.heap.size, 0, none⟩ = some (.int .i64 k) ∧ w'.cell? ⟨w.heap.size, 1, none⟩ = some (.int .u64 b) ∧ w'.cell? ⟨w.heap.size, 2, none⟩ = some (.string t) ∧ w'.cell? ⟨w.heap.size + 1, 0, none⟩ = some (.int .i64 k) ∧ w'.cell? ⟨w.heap.size + 1, 1, none⟩ = some (.int .u64 b) ∧ w'.cell? ⟨w.heap.size + 1, 2, none⟩ = some (.string t) ∧ w'.cell? ⟨w.heap.size + 2, 0, none⟩ = some (.int .i64 k2) ∧ w'.cell? ⟨w.heap.size + 2, 1, none⟩ = some (.int .u64 b2) ∧ w'.cell? ⟨w.heap.size + 2, 2, none⟩ = some (.string t2)) (exact kk) (first | (go_at_call 12; clear tk0; refine (HAB.out _ (HT.out.below (by exact ⟨bz.os, bz.tape, bz.output, bz.size, bz.block⟩))).mono ?_; rintro e v1 ⟨rfl, g⟩; have g := ofDrew g; have bz := bz.trans (g.mono bz.size); have kk := K9.below kk g) | (go_at_call 12; clear tk1; refine (HBA.out _ (HT.out.below (by exact ⟨bz.os, bz.tape, bz.output, bz.size, bz.block⟩))).mono ?_; rintro e v1 ⟨rfl, g⟩; have bz := bz.trans (g.mono bz.size); have kk := K9.below kk g) | (go_at_call 12; refine (HAB.out _ (HT.out.below (by exact ⟨bz.os, bz.tape, bz.output, bz.size, bz.block⟩))).mono ?_; rintro e v1 ⟨rfl, g⟩; have bz := bz.trans (g.mono bz.size); have kk := K9.below kk g))
  have kk0 := kk
  obtain ⟨a1, a2, a3, a4, a5, a6, a7, a8, a9⟩ := kk
  go_wp2_with fail
  clear a1 a2 a3 a4 a5 a6 a7 a8 a9
  refine (HAB.out _ (HT.out.below (by exact bz))).mono ?_
  rintro e z ⟨rfl, g⟩
  have kk := K9.below kk0 g
  have bz := bz.trans (g.mono bz.size)
  clear kk0 g
  have kk0 := kk
  obtain ⟨a1, a2, a3, a4, a5, a6, a7, a8, a9⟩ := kk
  go_wp2_with fail
  clear a1 a2 a3 a4 a5 a6 a7 a8 a9
  refine (HBC.out _ (HT.out.below (by exact bz))).mono ?_
  rintro e z ⟨rfl, g⟩
  have kk := K9.below kk0 g
  have bz := bz.trans (g.mono bz.size)
  clear kk0 g
  go_wp2_with fail
  go_ret
  exact ⟨rfl, bz⟩
set_option maxRecDepth 20000 in
set_option maxHeartbeats 3200000 in
theorem vo_eq_ac (w : World) (hT : Tabs w) (h1 : ¬ 1000 < (t.size : Int)) (h3 : ¬ 1000 < (t2.size : Int)) (f0 : V.formed k b t.data.toList = true) (f2 : V.formed k2 b2 t2.data.toList = true) (bb : b < 18446744073709551616) (bb2 : b2 < 18446744073709551616) (hab : V.vcmp k b t.data.toList k b t.data.toList = 0) (hbc : ¬ 0 < V.vcmp k b t.data.toList k2 b2 t2.data.toList) (hac : V.vcmp k b t.data.toList k2 b2 t2.data.toList ≤ 0) : Calls Tryd.prog 5 #[V.val k b t, V.val k b t, V.val k2 b2 t2] w fun e w' => e = .returned (.bool true) ∧ Below w.heap.size w w' := by
  have HF0 := Lib.hid f0
  have HF2 := Lib.hid f2
  have HF1 := HF0
  have HT := Lib.hid hT
  have HAB := Lib.hid (fun (z : World) (hz : Tabs z) => compare_any k b t k b t z hz bb bb)
  have HBA := Lib.hid (fun (z : World) (hz : Tabs z) => compare_any k b t k b t z hz bb bb)
  rw [hab] at HAB
  rw [hab] at HBA
  have HBC := Lib.hid (fun (z : World) (hz : Tabs z) => compare_any k b t k2 b2 t2 z hz bb bb2)
  obtain ⟨pbc, hpbc⟩ : ∃ x, x = V.vcmp k b t.data.toList k2 b2 t2.data.toList := ⟨_, rfl⟩
  rw [← hpbc] at HBC hbc
  clear hpbc
  have HAC := Lib.hid (fun (z : World) (hz : Tabs z) => compare_any k b t k2 b2 t2 z hz bb bb2)
  obtain ⟨pac, hpac⟩ : ∃ x, x = V.vcmp k b t.data.toList k2 b2 t2.data.toList := ⟨_, rfl⟩
  rw [← hpac] at HAC hac
  clear hpac
  clear hT f0 f2 hab
  unfold V.val at *
  go_enter Tryd.func5, Tryd.ntmps5
  have HK := Lib.hid (W3.k9 w k b t k b t k2 b2 t2)
  have HB := Lib.hid (W3.bel w k b t k b t k2 b2 t2)
  go_wp2_with fail
  refine (v_awake _).mono ?_
  change ∀ e w', _ → _
  rintro e w1 ⟨rfl, g1⟩
  have HK1 := Lib.hid (HK.out.below g1)
  have HB1 := Lib.hid (HB.out.trans (g1.mono HB.out.size))
  clear HK HB g1
  obtain ⟨a1, a2, a3, a4, a5, a6, a7, a8, a9⟩ := HK1.out
  go_wp2_with fail
  clear a1 a2 a3 a4 a5 a6 a7 a8 a9
  refine (formed_any k b t _ (HT.out.below HB1.out)).mono ?_
  rw [HF0.out]
  rintro e w2 ⟨rfl, g⟩
  have HK2 := Lib.hid (HK1.out.below g)
  have HB2 := Lib.hid (HB1.out.trans (g.mono HB1.out.size))
  clear HK1 HB1 g
  obtain ⟨a1, a2, a3, a4, a5, a6, a7, a8, a9⟩ := HK2.out
  go_wp2_with fail
  clear a1 a2 a3 a4 a5 a6 a7 a8 a9
  refine (formed_any k b t _ (HT.out.below HB2.out)).mono ?_
  rw [HF1.out]
  rintro e w3 ⟨rfl, g⟩
  have HK3 := Lib.hid (HK2.out.below g)
  have HB3 := Lib.hid (HB2.out.trans (g.mono HB2.out.size))
  clear HK2 HB2 g
  obtain ⟨a1, a2, a3, a4, a5, a6, a7, a8, a9⟩ := HK3.out
  go_wp2_with fail
  clear a1 a2 a3 a4 a5 a6 a7 a8 a9
  refine (formed_any k2 b2 t2 _ (HT.out.below HB3.out)).mono ?_
  rw [HF2.out]
  rintro e w4 ⟨rfl, g⟩
  have HK4 := Lib.hid (HK3.out.below g)
  have HB4 := Lib.hid (HB3.out.trans (g.mono HB3.out.size))
  clear HK3 HB3 g
  obtain ⟨a1, a2, a3, a4, a5, a6, a7, a8, a9⟩ := HK4.out
  go_wp2_with fail
  clear a1 a2 a3 a4 a5 a6 a7 a8 a9
  have heq : ∀ z, (binOp .eql 27 (.agg #[.int .i64 k, .int .u64 b, .string t]) (.agg #[.int .i64 k, .int .u64 b, .string t])).run Tryd.prog z = .ok (.bool true) z := fun z => by rw [run_eqv]; simp []
  have hw0 : IntKind.i64.wrap 0 = 0 := by rfl
  have hw1 : IntKind.i64.wrap 1 = 1 := by rfl
  have hw2 : IntKind.i64.wrap (-1) = -1 := by rfl
  have kk := HK4.out
  have bz := HB4.out
  have tk0 : True := trivial
  have tk1 : True := trivial
  go_region_held3 (fun w' => w'.cell? ⟨w.heap.size, 0, none⟩ = some (.int .i64 k) ∧ w'.cell? ⟨w.heap.size, 1, none⟩ = some (.int .u64 b) ∧ w'.cell? ⟨w.heap.size, 2, none⟩ = some (.string t) ∧ w'.cell? ⟨w.heap.size + 1, 0, none⟩ = some (.int .i64 k) ∧ w'.cell? ⟨w.heap.size + 1, 1, none⟩ = some (.int .u64 b) ∧ w'.cell? ⟨w.heap.size + 1, 2, none⟩ = some (.string t) ∧ w'.cell? ⟨w.heap.size + 2, 0, none⟩ = some (.int .i64 k2) ∧ w'.cell? ⟨w.heap.size + 2, 1, none⟩ = some (.int .u64 b2) ∧ w'.cell? ⟨w.heap.size + 2, 2, none⟩ = some (.string t2)) (exact kk) (first | (go_at_call 12; clear tk0; refine (HAB.out _ (HT.out.below (by exact ⟨bz.os, bz.tape, bz.output, bz.size, bz.block⟩))).mono ?_; rintro e v1 ⟨rfl, g⟩; have g := ofDrew g; have bz := bz.trans (g.mono bz.size); have kk := K9.below kk g) | (go_at_call 12; clear tk1; refine (HBA.out _ (HT.out.below (by exact ⟨bz.os, bz.tape, bz.output, bz.size, bz.block⟩))).mono ?_; rintro e v1 ⟨rfl, g⟩; have bz := bz.trans (g.mono bz.size); have kk := K9.below kk g) | (go_at_call 12; refine (HAB.out _ (HT.out.below (by exact ⟨bz.os, bz.tape, bz.output, bz.size, bz.block⟩))).mono ?_; rintro e v1 ⟨rfl, g⟩; have bz := bz.trans (g.mono bz.size); have kk := K9.below kk g))
  have kk0 := kk
  obtain ⟨a1, a2, a3, a4, a5, a6, a7, a8, a9⟩ := kk
  go_wp2_with fail
  clear a1 a2 a3 a4 a5 a6 a7 a8 a9
  refine (HAB.out _ (HT.out.below (by exact bz))).mono ?_
  rintro e z ⟨rfl, g⟩
  have kk := K9.below kk0 g
  have bz := bz.trans (g.mono bz.size)
  clear kk0 g
  have kk0 := kk
  obtain ⟨a1, a2, a3, a4, a5, a6, a7, a8, a9⟩ := kk
  go_wp2_with fail
  clear a1 a2 a3 a4 a5 a6 a7 a8 a9
  refine (HBC.out _ (HT.out.below (by exact bz))).mono ?_
  rintro e z ⟨rfl, g⟩
  have kk := K9.below kk0 g
  have bz := bz.trans (g.mono bz.size)
  clear kk0 g
  have kk0 := kk
  obtain ⟨a1, a2, a3, a4, a5, a6, a7, a8, a9⟩ := kk
  go_wp2_with fail
  clear a1 a2 a3 a4 a5 a6 a7 a8 a9
  refine (HAC.out _ (HT.out.below (by exact bz))).mono ?_
  rintro e z ⟨rfl, g⟩
  have kk := K9.below kk0 g
  have bz := bz.trans (g.mono bz.size)
  clear kk0 g
  go_wp2_with fail
  go_ret
  exact ⟨rfl, bz⟩
set_option maxRecDepth 20000 in
set_option maxHeartbeats 3200000 in
theorem vo_lt_bc (w : World) (hT : Tabs w) (h1 : ¬ 1000 < (t.size : Int)) (h2 : ¬ 1000 < (t'.size : Int)) (h3 : ¬ 1000 < (t2.size : Int)) (f0 : V.formed k b t.data.toList = true) (f1 : V.formed k' b' t'.data.toList = true) (f2 : V.formed k2 b2 t2.data.toList = true) (bb : b < 18446744073709551616) (bb' : b' < 18446744073709551616) (bb2 : b2 < 18446744073709551616) (hne : ¬ (k = k' ∧ b = b' ∧ t.toList = t'.toList)) (hab : V.vcmp k b t.data.toList k' b' t'.data.toList = -1) (hba : V.vcmp k' b' t'.data.toList k b t.data.toList = 1) (hbc : 0 < V.vcmp k' b' t'.data.toList k2 b2 t2.data.toList) : Calls Tryd.prog 5 #[V.val k b t, V.val k' b' t', V.val k2 b2 t2] w fun e w' => e = .returned (.bool true) ∧ Below w.heap.size w w' := by
  have HF0 := Lib.hid f0
  have HF1 := Lib.hid f1
  have HF2 := Lib.hid f2
  have HT := Lib.hid hT
  have HAB := Lib.hid (fun (z : World) (hz : Tabs z) => compare_any k b t k' b' t' z hz bb bb')
  have HBA := Lib.hid (fun (z : World) (hz : Tabs z) => compare_any k' b' t' k b t z hz bb' bb)
  rw [hab] at HAB
  rw [hba] at HBA
  have HBC := Lib.hid (fun (z : World) (hz : Tabs z) => compare_any k' b' t' k2 b2 t2 z hz bb' bb2)
  obtain ⟨pbc, hpbc⟩ : ∃ x, x = V.vcmp k' b' t'.data.toList k2 b2 t2.data.toList := ⟨_, rfl⟩
  rw [← hpbc] at HBC hbc
  clear hpbc
  clear hT f0 f1 f2 hab hba
  unfold V.val at *
  go_enter Tryd.func5, Tryd.ntmps5
  have HK := Lib.hid (W3.k9 w k b t k' b' t' k2 b2 t2)
  have HB := Lib.hid (W3.bel w k b t k' b' t' k2 b2 t2)
  go_wp2_with fail
  refine (v_awake _).mono ?_
  change ∀ e w', _ → _
  rintro e w1 ⟨rfl, g1⟩
  have HK1 := Lib.hid (HK.out.below g1)
  have HB1 := Lib.hid (HB.out.trans (g1.mono HB.out.size))
  clear HK HB g1
  obtain ⟨a1, a2, a3, a4, a5, a6, a7, a8, a9⟩ := HK1.out
  go_wp2_with fail
  clear a1 a2 a3 a4 a5 a6 a7 a8 a9
  refine (formed_any k b t _ (HT.out.below HB1.out)).mono ?_
  rw [HF0.out]
  rintro e w2 ⟨rfl, g⟩
  have HK2 := Lib.hid (HK1.out.below g)
  have HB2 := Lib.hid (HB1.out.trans (g.mono HB1.out.size))
  clear HK1 HB1 g
  obtain ⟨a1, a2, a3, a4, a5, a6, a7, a8, a9⟩ := HK2.out
  go_wp2_with fail
  clear a1 a2 a3 a4 a5 a6 a7 a8 a9
  refine (formed_any k' b' t' _ (HT.out.below HB2.out)).mono ?_
  rw [HF1.out]
  rintro e w3 ⟨rfl, g⟩
  have HK3 := Lib.hid (HK2.out.below g)
  have HB3 := Lib.hid (HB2.out.trans (g.mono HB2.out.size))
  clear HK2 HB2 g
  obtain ⟨a1, a2, a3, a4, a5, a6, a7, a8, a9⟩ := HK3.out
  go_wp2_with fail
  clear a1 a2 a3 a4 a5 a6 a7 a8 a9
  refine (formed_any k2 b2 t2 _ (HT.out.below HB3.out)).mono ?_
  rw [HF2.out]
  rintro e w4 ⟨rfl, g⟩
  have HK4 := Lib.hid (HK3.out.below g)
  have HB4 := Lib.hid (HB3.out.trans (g.mono HB3.out.size))
  clear HK3 HB3 g
  obtain ⟨a1, a2, a3, a4, a5, a6, a7, a8, a9⟩ := HK4.out
  go_wp2_with fail
  clear a1 a2 a3 a4 a5 a6 a7 a8 a9
  have heq : ∀ z, (binOp .eql 27 (.agg #[.int .i64 k, .int .u64 b, .string t]) (.agg #[.int .i64 k', .int .u64 b', .string t'])).run Tryd.prog z = .ok (.bool false) z := fun z => by rw [run_eqv]; simp [hne]
  have hw0 : IntKind.i64.wrap 0 = 0 := by rfl
  have hw1 : IntKind.i64.wrap 1 = 1 := by rfl
  have hw2 : IntKind.i64.wrap (-1) = -1 := by rfl
  have kk := HK4.out
  have bz := HB4.out
  have tk0 : True := trivial
  have tk1 : True := trivial
  go_region_held3 (fun w' => w'.cell? ⟨w.heap.size, 0, none⟩ = some (.int .i64 k) ∧ w'.cell? ⟨w.heap.size, 1, none⟩ = some (.int .u64 b) ∧ w'.cell? ⟨w.heap.size, 2, none⟩ = some (.string t) ∧ w'.cell? ⟨w.heap.size + 1, 0, none⟩ = some (.int .i64 k') ∧ w'.cell? ⟨w.heap.size + 1, 1, none⟩ = some (.int .u64 b') ∧ w'.cell? ⟨w.heap.size + 1, 2, none⟩ = some (.string t') ∧ w'.cell? ⟨w.heap.size + 2, 0, none⟩ = some (.int .i64 k2) ∧ w'.cell? ⟨w.heap.size + 2, 1, none⟩ = some (.int .u64 b2) ∧ w'.cell? ⟨w.heap.size + 2, 2, none⟩ = some (.string t2)) (exact kk) (first | (go_at_call 12; clear tk0; refine (HAB.out _ (HT.out.below (by exact ⟨bz.os, bz.tape, bz.output, bz.size, bz.block⟩))).mono ?_; rintro e v1 ⟨rfl, g⟩; have g := ofDrew g; have bz := bz.trans (g.mono bz.size); have kk := K9.below kk g) | (go_at_call 12; clear tk1; refine (HBA.out _ (HT.out.below (by exact ⟨bz.os, bz.tape, bz.output, bz.size, bz.block⟩))).mono ?_; rintro e v1 ⟨rfl, g⟩; have bz := bz.trans (g.mono bz.size); have kk := K9.below kk g) | (go_at_call 12; refine (HAB.out _ (HT.out.below (by exact ⟨bz.os, bz.tape, bz.output, bz.size, bz.block⟩))).mono ?_; rintro e v1 ⟨rfl, g⟩; have bz := bz.trans (g.mono bz.size); have kk := K9.below kk g))
  have kk0 := kk
  obtain ⟨a1, a2, a3, a4, a5, a6, a7, a8, a9⟩ := kk
  go_wp2_with fail
  clear a1 a2 a3 a4 a5 a6 a7 a8 a9
  refine (HAB.out _ (HT.out.below (by exact bz))).mono ?_
  rintro e z ⟨rfl, g⟩
  have kk := K9.below kk0 g
  have bz := bz.trans (g.mono bz.size)
  clear kk0 g
  have kk0 := kk
  obtain ⟨a1, a2, a3, a4, a5, a6, a7, a8, a9⟩ := kk
  go_wp2_with fail
  clear a1 a2 a3 a4 a5 a6 a7 a8 a9
  refine (HBC.out _ (HT.out.below (by exact bz))).mono ?_
  rintro e z ⟨rfl, g⟩
  have kk := K9.below kk0 g
  have bz := bz.trans (g.mono bz.size)
  clear kk0 g
  go_wp2_with fail
  go_ret
  exact ⟨rfl, bz⟩
set_option maxRecDepth 20000 in
set_option maxHeartbeats 3200000 in
theorem vo_lt_ac (w : World) (hT : Tabs w) (h1 : ¬ 1000 < (t.size : Int)) (h2 : ¬ 1000 < (t'.size : Int)) (h3 : ¬ 1000 < (t2.size : Int)) (f0 : V.formed k b t.data.toList = true) (f1 : V.formed k' b' t'.data.toList = true) (f2 : V.formed k2 b2 t2.data.toList = true) (bb : b < 18446744073709551616) (bb' : b' < 18446744073709551616) (bb2 : b2 < 18446744073709551616) (hne : ¬ (k = k' ∧ b = b' ∧ t.toList = t'.toList)) (hab : V.vcmp k b t.data.toList k' b' t'.data.toList = -1) (hba : V.vcmp k' b' t'.data.toList k b t.data.toList = 1) (hbc : ¬ 0 < V.vcmp k' b' t'.data.toList k2 b2 t2.data.toList) (hac : V.vcmp k b t.data.toList k2 b2 t2.data.toList ≤ 0) : Calls Tryd.prog 5 #[V.val k b t, V.val k' b' t', V.val k2 b2 t2] w fun e w' => e = .returned (.bool true) ∧ Below w.heap.size w w' := by
  have HF0 := Lib.hid f0
  have HF1 := Lib.hid f1
  have HF2 := Lib.hid f2
  have HT := Lib.hid hT
  have HAB := Lib.hid (fun (z : World) (hz : Tabs z) => compare_any k b t k' b' t' z hz bb bb')
  have HBA := Lib.hid (fun (z : World) (hz : Tabs z) => compare_any k' b' t' k b t z hz bb' bb)
  rw [hab] at HAB
  rw [hba] at HBA
  have HBC := Lib.hid (fun (z : World) (hz : Tabs z) => compare_any k' b' t' k2 b2 t2 z hz bb' bb2)
  obtain ⟨pbc, hpbc⟩ : ∃ x, x = V.vcmp k' b' t'.data.toList k2 b2 t2.data.toList := ⟨_, rfl⟩
  rw [← hpbc] at HBC hbc
  clear hpbc
  have HAC := Lib.hid (fun (z : World) (hz : Tabs z) => compare_any k b t k2 b2 t2 z hz bb bb2)
  obtain ⟨pac, hpac⟩ : ∃ x, x = V.vcmp k b t.data.toList k2 b2 t2.data.toList := ⟨_, rfl⟩
  rw [← hpac] at HAC hac
  clear hpac
  clear hT f0 f1 f2 hab hba
  unfold V.val at *
  go_enter Tryd.func5, Tryd.ntmps5
  have HK := Lib.hid (W3.k9 w k b t k' b' t' k2 b2 t2)
  have HB := Lib.hid (W3.bel w k b t k' b' t' k2 b2 t2)
  go_wp2_with fail
  refine (v_awake _).mono ?_
  change ∀ e w', _ → _
  rintro e w1 ⟨rfl, g1⟩
  have HK1 := Lib.hid (HK.out.below g1)
  have HB1 := Lib.hid (HB.out.trans (g1.mono HB.out.size))
  clear HK HB g1
  obtain ⟨a1, a2, a3, a4, a5, a6, a7, a8, a9⟩ := HK1.out
  go_wp2_with fail
  clear a1 a2 a3 a4 a5 a6 a7 a8 a9
  refine (formed_any k b t _ (HT.out.below HB1.out)).mono ?_
  rw [HF0.out]
  rintro e w2 ⟨rfl, g⟩
  have HK2 := Lib.hid (HK1.out.below g)
  have HB2 := Lib.hid (HB1.out.trans (g.mono HB1.out.size))
  clear HK1 HB1 g
  obtain ⟨a1, a2, a3, a4, a5, a6, a7, a8, a9⟩ := HK2.out
  go_wp2_with fail
  clear a1 a2 a3 a4 a5 a6 a7 a8 a9
  refine (formed_any k' b' t' _ (HT.out.below HB2.out)).mono ?_
  rw [HF1.out]
  rintro e w3 ⟨rfl, g⟩
  have HK3 := Lib.hid (HK2.out.below g)
  have HB3 := Lib.hid (HB2.out.trans (g.mono HB2.out.size))
  clear HK2 HB2 g
  obtain ⟨a1, a2, a3, a4, a5, a6, a7, a8, a9⟩ := HK3.out
  go_wp2_with fail
  clear a1 a2 a3 a4 a5 a6 a7 a8 a9
  refine (formed_any k2 b2 t2 _ (HT.out.below HB3.out)).mono ?_
  rw [HF2.out]
  rintro e w4 ⟨rfl, g⟩
  have HK4 := Lib.hid (HK3.out.below g)
  have HB4 := Lib.hid (HB3.out.trans (g.mono HB3.out.size))
  clear HK3 HB3 g
  obtain ⟨a1, a2, a3, a4, a5, a6, a7, a8, a9⟩ := HK4.out
  go_wp2_with fail
  clear a1 a2 a3 a4 a5 a6 a7 a8 a9
  have heq : ∀ z, (binOp .eql 27 (.agg #[.int .i64 k, .int .u64 b, .string t]) (.agg #[.int .i64 k', .int .u64 b', .string t'])).run Tryd.prog z = .ok (.bool false) z := fun z => by rw [run_eqv]; simp [hne]
  have hw0 : IntKind.i64.wrap 0 = 0 := by rfl
  have hw1 : IntKind.i64.wrap 1 = 1 := by rfl
  have hw2 : IntKind.i64.wrap (-1) = -1 := by rfl
  have kk := HK4.out
  have bz := HB4.out
  have tk0 : True := trivial
  have tk1 : True := trivial
  go_region_held3 (fun w' => w'.cell? ⟨w.heap.size, 0, none⟩ = some (.int .i64 k) ∧ w'.cell? ⟨w.heap.size, 1, none⟩ = some (.int .u64 b) ∧ w'.cell? ⟨w.heap.size, 2, none⟩ = some (.string t) ∧ w'.cell? ⟨w.heap.size + 1, 0, none⟩ = some (.int .i64 k') ∧ w'.cell? ⟨w.heap.size + 1, 1, none⟩ = some (.int .u64 b') ∧ w'.cell? ⟨w.heap.size + 1, 2, none⟩ = some (.string t') ∧ w'.cell? ⟨w.heap.size + 2, 0, none⟩ = some (.int .i64 k2) ∧ w'.cell? ⟨w.heap.size + 2, 1, none⟩ = some (.int .u64 b2) ∧ w'.cell? ⟨w.heap.size + 2, 2, none⟩ = some (.string t2)) (exact kk) (first | (go_at_call 12; clear tk0; refine (HAB.out _ (HT.out.below (by exact ⟨bz.os, bz.tape, bz.output, bz.size, bz.block⟩))).mono ?_; rintro e v1 ⟨rfl, g⟩; have g := ofDrew g; have bz := bz.trans (g.mono bz.size); have kk := K9.below kk g) | (go_at_call 12; clear tk1; refine (HBA.out _ (HT.out.below (by exact ⟨bz.os, bz.tape, bz.output, bz.size, bz.block⟩))).mono ?_; rintro e v1 ⟨rfl, g⟩; have bz := bz.trans (g.mono bz.size); have kk := K9.below kk g) | (go_at_call 12; refine (HAB.out _ (HT.out.below (by exact ⟨bz.os, bz.tape, bz.output, bz.size, bz.block⟩))).mono ?_; rintro e v1 ⟨rfl, g⟩; have bz := bz.trans (g.mono bz.size); have kk := K9.below kk g))
  have kk0 := kk
  obtain ⟨a1, a2, a3, a4, a5, a6, a7, a8, a9⟩ := kk
  go_wp2_with fail
  clear a1 a2 a3 a4 a5 a6 a7 a8 a9
  refine (HAB.out _ (HT.out.below (by exact bz))).mono ?_
  rintro e z ⟨rfl, g⟩
  have kk := K9.below kk0 g
  have bz := bz.trans (g.mono bz.size)
  clear kk0 g
  have kk0 := kk
  obtain ⟨a1, a2, a3, a4, a5, a6, a7, a8, a9⟩ := kk
  go_wp2_with fail
  clear a1 a2 a3 a4 a5 a6 a7 a8 a9
  refine (HBC.out _ (HT.out.below (by exact bz))).mono ?_
  rintro e z ⟨rfl, g⟩
  have kk := K9.below kk0 g
  have bz := bz.trans (g.mono bz.size)
  clear kk0 g
  have kk0 := kk
  obtain ⟨a1, a2, a3, a4, a5, a6, a7, a8, a9⟩ := kk
  go_wp2_with fail
  clear a1 a2 a3 a4 a5 a6 a7 a8 a9
  refine (HAC.out _ (HT.out.below (by exact bz))).mono ?_
  rintro e z ⟨rfl, g⟩
  have kk := K9.below kk0 g
  have bz := bz.trans (g.mono bz.size)
  clear kk0 g
  go_wp2_with fail
  go_ret
  exact ⟨rfl, bz⟩
set_option maxRecDepth 20000 in
set_option maxHeartbeats 3200000 in
theorem vo_gt (w : World) (hT : Tabs w) (h1 : ¬ 1000 < (t.size : Int)) (h2 : ¬ 1000 < (t'.size : Int)) (h3 : ¬ 1000 < (t2.size : Int)) (f0 : V.formed k b t.data.toList = true) (f1 : V.formed k' b' t'.data.toList = true) (f2 : V.formed k2 b2 t2.data.toList = true) (bb : b < 18446744073709551616) (bb' : b' < 18446744073709551616) (bb2 : b2 < 18446744073709551616) (hne : ¬ (k = k' ∧ b = b' ∧ t.toList = t'.toList)) (hab : V.vcmp k b t.data.toList k' b' t'.data.toList = 1) (hba : V.vcmp k' b' t'.data.toList k b t.data.toList = -1) : Calls Tryd.prog 5 #[V.val k b t, V.val k' b' t', V.val k2 b2 t2] w fun e w' => e = .returned (.bool true) ∧ Below w.heap.size w w' := by
  have HF0 := Lib.hid f0
  have HF1 := Lib.hid f1
  have HF2 := Lib.hid f2
  have HT := Lib.hid hT
  have HAB := Lib.hid (fun (z : World) (hz : Tabs z) => compare_any k b t k' b' t' z hz bb bb')
  have HBA := Lib.hid (fun (z : World) (hz : Tabs z) => compare_any k' b' t' k b t z hz bb' bb)
  rw [hab] at HAB
  rw [hba] at HBA
  clear hT f0 f1 f2 hab hba
  unfold V.val at *
  go_enter Tryd.func5, Tryd.ntmps5
  have HK := Lib.hid (W3.k9 w k b t k' b' t' k2 b2 t2)
  have HB := Lib.hid (W3.bel w k b t k' b' t' k2 b2 t2)
  go_wp2_with fail
  refine (v_awake _).mono ?_
  change ∀ e w', _ → _
  rintro e w1 ⟨rfl, g1⟩
  have HK1 := Lib.hid (HK.out.below g1)
  have HB1 := Lib.hid (HB.out.trans (g1.mono HB.out.size))
  clear HK HB g1
  obtain ⟨a1, a2, a3, a4, a5, a6, a7, a8, a9⟩ := HK1.out
  go_wp2_with fail
  clear a1 a2 a3 a4 a5 a6 a7 a8 a9
  refine (formed_any k b t _ (HT.out.below HB1.out)).mono ?_
  rw [HF0.out]
  rintro e w2 ⟨rfl, g⟩
  have HK2 := Lib.hid (HK1.out.below g)
  have HB2 := Lib.hid (HB1.out.trans (g.mono HB1.out.size))
  clear HK1 HB1 g
  obtain ⟨a1, a2, a3, a4, a5, a6, a7, a8, a9⟩ := HK2.out
  go_wp2_with fail
  clear a1 a2 a3 a4 a5 a6 a7 a8 a9
  refine (formed_any k' b' t' _ (HT.out.below HB2.out)).mono ?_
  rw [HF1.out]
  rintro e w3 ⟨rfl, g⟩
  have HK3 := Lib.hid (HK2.out.below g)
  have HB3 := Lib.hid (HB2.out.trans (g.mono HB2.out.size))
  clear HK2 HB2 g
  obtain ⟨a1, a2, a3, a4, a5, a6, a7, a8, a9⟩ := HK3.out
  go_wp2_with fail
  clear a1 a2 a3 a4 a5 a6 a7 a8 a9
  refine (formed_any k2 b2 t2 _ (HT.out.below HB3.out)).mono ?_
  rw [HF2.out]
  rintro e w4 ⟨rfl, g⟩
  have HK4 := Lib.hid (HK3.out.below g)
  have HB4 := Lib.hid (HB3.out.trans (g.mono HB3.out.size))
  clear HK3 HB3 g
  obtain ⟨a1, a2, a3, a4, a5, a6, a7, a8, a9⟩ := HK4.out
  go_wp2_with fail
  clear a1 a2 a3 a4 a5 a6 a7 a8 a9
  have heq : ∀ z, (binOp .eql 27 (.agg #[.int .i64 k, .int .u64 b, .string t]) (.agg #[.int .i64 k', .int .u64 b', .string t'])).run Tryd.prog z = .ok (.bool false) z := fun z => by rw [run_eqv]; simp [hne]
  have hw0 : IntKind.i64.wrap 0 = 0 := by rfl
  have hw1 : IntKind.i64.wrap 1 = 1 := by rfl
  have hw2 : IntKind.i64.wrap (-1) = -1 := by rfl
  have kk := HK4.out
  have bz := HB4.out
  have tk0 : True := trivial
  have tk1 : True := trivial
  go_region_held3 (fun w' => w'.cell? ⟨w.heap.size, 0, none⟩ = some (.int .i64 k) ∧ w'.cell? ⟨w.heap.size, 1, none⟩ = some (.int .u64 b) ∧ w'.cell? ⟨w.heap.size, 2, none⟩ = some (.string t) ∧ w'.cell? ⟨w.heap.size + 1, 0, none⟩ = some (.int .i64 k') ∧ w'.cell? ⟨w.heap.size + 1, 1, none⟩ = some (.int .u64 b') ∧ w'.cell? ⟨w.heap.size + 1, 2, none⟩ = some (.string t') ∧ w'.cell? ⟨w.heap.size + 2, 0, none⟩ = some (.int .i64 k2) ∧ w'.cell? ⟨w.heap.size + 2, 1, none⟩ = some (.int .u64 b2) ∧ w'.cell? ⟨w.heap.size + 2, 2, none⟩ = some (.string t2)) (exact kk) (first | (go_at_call 12; clear tk0; refine (HAB.out _ (HT.out.below (by exact ⟨bz.os, bz.tape, bz.output, bz.size, bz.block⟩))).mono ?_; rintro e v1 ⟨rfl, g⟩; have g := ofDrew g; have bz := bz.trans (g.mono bz.size); have kk := K9.below kk g) | (go_at_call 12; clear tk1; refine (HBA.out _ (HT.out.below (by exact ⟨bz.os, bz.tape, bz.output, bz.size, bz.block⟩))).mono ?_; rintro e v1 ⟨rfl, g⟩; have bz := bz.trans (g.mono bz.size); have kk := K9.below kk g) | (go_at_call 12; refine (HAB.out _ (HT.out.below (by exact ⟨bz.os, bz.tape, bz.output, bz.size, bz.block⟩))).mono ?_; rintro e v1 ⟨rfl, g⟩; have bz := bz.trans (g.mono bz.size); have kk := K9.below kk g))
  have kk0 := kk
  obtain ⟨a1, a2, a3, a4, a5, a6, a7, a8, a9⟩ := kk
  go_wp2_with fail
  clear a1 a2 a3 a4 a5 a6 a7 a8 a9
  refine (HAB.out _ (HT.out.below (by exact bz))).mono ?_
  rintro e z ⟨rfl, g⟩
  have kk := K9.below kk0 g
  have bz := bz.trans (g.mono bz.size)
  clear kk0 g
  go_wp2_with fail
  go_ret
  exact ⟨rfl, bz⟩
end
end Go.Proofs.YtdoclbonbjkomaaDoor
