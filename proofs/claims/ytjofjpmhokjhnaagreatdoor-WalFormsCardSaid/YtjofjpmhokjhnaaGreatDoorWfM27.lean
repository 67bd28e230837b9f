import Derived.Test.YtjofjpmhokjhnaaGreatDoorWfM26
import Derived.Test.YtjofjpmhokjhnaaGreatDoorWfM24
import Derived.Test.YtjofjpmhokjhnaaGreatDoorWfM21
import Derived.Test.YtjofjpmhokjhnaaGreatDoorWfM23
set_option linter.unusedSimpArgs false
set_option linter.unusedVariables false
namespace Go.Proofs.YtjofjpmhokjhnaaGreatDoor
set_option maxRecDepth 20000
open Go.RowKit T
theorem SameC_refl (x : Cm) : SameC x x = true := by unfold SameC; simp
theorem SameT_refl (x : Tn) : SameT x x = true := by unfold SameT; simp
theorem SameC_comm (x y : Cm) : SameC x y = SameC y x := by
 unfold SameC; rw [decide_eq_decide]
 constructor <;> (rintro ⟨h1, ⟨h2, h3⟩, h4, h5, h6, h7, h8, h9, h10⟩; exact ⟨h1.symm, ⟨h2.symm, h3.symm⟩, h4.symm, h5.symm, h6.symm, h7.symm, h8.symm, h9.symm, h10.symm⟩)
theorem SameT_comm (x y : Tn) : SameT x y = SameT y x := by
 unfold SameT; rw [decide_eq_decide]
 constructor <;> (rintro ⟨h1, h2, h3, h4⟩; exact ⟨h1.symm, h2.symm, h3.symm, h4.symm⟩)
theorem fields_1 : fieldsOf 1 = [66] := by decide
theorem fields_2 : fieldsOf 2 = [66, 83, 72] := by decide
theorem fields_3 : fieldsOf 3 = [66] := by decide
theorem fields_4 : fieldsOf 4 = [66, 83, 67] := by decide
theorem fields_5 : fieldsOf 5 = [66, 83] := by decide
theorem fields_6 : fieldsOf 6 = [83, 67] := by decide
theorem fields_7 : fieldsOf 7 = [83] := by decide
theorem fields_8 : fieldsOf 8 = [84] := by decide
theorem fields_9 : fieldsOf 9 = [73, 71, 80] := by decide
theorem fields_10 : fieldsOf 10 = [73, 71, 89] := by decide
theorem fields_11 : fieldsOf 11 = [73, 71, 80, 89] := by decide
theorem fields_12 : fieldsOf 12 = [80, 78, 75] := by decide
theorem fields_13 : fieldsOf 13 = [71, 80, 78, 75, 86, 88, 69] := by decide
theorem fields_14 : fieldsOf 14 = [78] := by decide
theorem fields_15 : fieldsOf 15 = [83, 68] := by decide
theorem only_1 (m : Ms) (h : m.kd = 1) : m.only = { Ms.zero 1 with br := m.br, bn := m.bn } := by
 unfold Ms.only
 rw [h, fields_1]
 simp [List.foldl, Ms.put]
theorem only_2 (m : Ms) (h : m.kd = 2) : m.only = (if m.ha then { Ms.zero 2 with br := m.br, bn := m.bn, sl := m.sl, ha := true, vr := m.vr, vn := m.vn, c := m.c } else { Ms.zero 2 with br := m.br, bn := m.bn, sl := m.sl }) := by
 unfold Ms.only
 rw [h, fields_2]
 cases hb : m.ha <;> simp [List.foldl, Ms.put, hb, Ms.zero]
theorem only_3 (m : Ms) (h : m.kd = 3) : m.only = { Ms.zero 3 with br := m.br, bn := m.bn } := by
 unfold Ms.only
 rw [h, fields_3]
 simp [List.foldl, Ms.put]
theorem only_4 (m : Ms) (h : m.kd = 4) : m.only = { Ms.zero 4 with br := m.br, bn := m.bn, sl := m.sl, c := m.c } := by
 unfold Ms.only
 rw [h, fields_4]
 simp [List.foldl, Ms.put]
theorem only_5 (m : Ms) (h : m.kd = 5) : m.only = { Ms.zero 5 with br := m.br, bn := m.bn, sl := m.sl } := by
 unfold Ms.only
 rw [h, fields_5]
 simp [List.foldl, Ms.put]
theorem only_6 (m : Ms) (h : m.kd = 6) : m.only = { Ms.zero 6 with sl := m.sl, c := m.c } := by
 unfold Ms.only
 rw [h, fields_6]
 simp [List.foldl, Ms.put]
theorem only_7 (m : Ms) (h : m.kd = 7) : m.only = { Ms.zero 7 with sl := m.sl } := by
 unfold Ms.only
 rw [h, fields_7]
 simp [List.foldl, Ms.put]
theorem only_8 (m : Ms) (h : m.kd = 8) : m.only = { Ms.zero 8 with t := m.t } := by
 unfold Ms.only
 rw [h, fields_8]
 simp [List.foldl, Ms.put]
theorem only_9 (m : Ms) (h : m.kd = 9) : m.only = { Ms.zero 9 with ii := m.ii, ij := m.ij, g := m.g, st := m.st } := by
 unfold Ms.only
 rw [h, fields_9]
 simp [List.foldl, Ms.put]
theorem only_10 (m : Ms) (h : m.kd = 10) : m.only = { Ms.zero 10 with ii := m.ii, ij := m.ij, g := m.g, ye := m.ye } := by
 unfold Ms.only
 rw [h, fields_10]
 simp [List.foldl, Ms.put]
theorem only_11 (m : Ms) (h : m.kd = 11) : m.only = { Ms.zero 11 with ii := m.ii, ij := m.ij, g := m.g, st := m.st, ye := m.ye } := by
 unfold Ms.only
 rw [h, fields_11]
 simp [List.foldl, Ms.put]
theorem only_12 (m : Ms) (h : m.kd = 12) : m.only = { Ms.zero 12 with st := m.st, nu := m.nu, ky := m.ky } := by
 unfold Ms.only
 rw [h, fields_12]
 simp [List.foldl, Ms.put]
theorem only_13 (m : Ms) (h : m.kd = 13) : m.only = { Ms.zero 13 with g := m.g, st := m.st, nu := m.nu, ky := m.ky, ve := m.ve, vk := m.vk, vb := m.vb, vt := m.vt, er := m.er } := by
 unfold Ms.only
 rw [h, fields_13]
 simp [List.foldl, Ms.put]
theorem only_14 (m : Ms) (h : m.kd = 14) : m.only = { Ms.zero 14 with nu := m.nu } := by
 unfold Ms.only
 rw [h, fields_14]
 simp [List.foldl, Ms.put]
theorem only_15 (m : Ms) (h : m.kd = 15) : m.only = { Ms.zero 15 with sl := m.sl, dt := m.dt, D := m.D, dc := m.dc } := by
 unfold Ms.only
 rw [h, fields_15]
 simp [List.foldl, Ms.put]
set_option maxHeartbeats 4000000
theorem fkd_1 (m : Ms) (h : m.kd = 1) : m.formed = m.rformed := by
 rw [Bool.eq_iff_iff]
 unfold T.Ms.formed T.Ms.fit T.Ms.sound T.Ms.rformed T.Ms.rfirst T.Ms.rsecond
 rw [only_1 m h, SameC_comm m.c Cm.zero, SameT_comm m.t Tn.zero]
 unfold T.Ms.same
 simp only [h, fields_1, Tn.formed, T.uB, T.uS, T.uH, T.uC, T.uT, T.uI, T.uG, T.uP, T.uY, T.uN, T.uK, T.uV, T.uD, Ms.zero]
 cases hh : m.ha <;> simp [SameC_refl, SameT_refl, Lib.toList_data] <;> (try simp only [decide_eq_true_eq]) <;> grind
theorem fkd_2 (m : Ms) (h : m.kd = 2) : m.formed = m.rformed := by
 rw [Bool.eq_iff_iff]
 unfold T.Ms.formed T.Ms.fit T.Ms.sound T.Ms.rformed T.Ms.rfirst T.Ms.rsecond
 rw [only_2 m h, SameC_comm m.c Cm.zero, SameT_comm m.t Tn.zero]
 unfold T.Ms.same
 simp only [h, fields_2, Tn.formed, T.uB, T.uS, T.uH, T.uC, T.uT, T.uI, T.uG, T.uP, T.uY, T.uN, T.uK, T.uV, T.uD, Ms.zero]
 cases hh : m.ha <;> simp [SameC_refl, SameT_refl, Lib.toList_data] <;> (try simp only [decide_eq_true_eq]) <;> grind
theorem fkd_3 (m : Ms) (h : m.kd = 3) : m.formed = m.rformed := by
 rw [Bool.eq_iff_iff]
 unfold T.Ms.formed T.Ms.fit T.Ms.sound T.Ms.rformed T.Ms.rfirst T.Ms.rsecond
 rw [only_3 m h, SameC_comm m.c Cm.zero, SameT_comm m.t Tn.zero]
 unfold T.Ms.same
 simp only [h, fields_3, Tn.formed, T.uB, T.uS, T.uH, T.uC, T.uT, T.uI, T.uG, T.uP, T.uY, T.uN, T.uK, T.uV, T.uD, Ms.zero]
 cases hh : m.ha <;> simp [SameC_refl, SameT_refl, Lib.toList_data] <;> (try simp only [decide_eq_true_eq]) <;> grind
theorem fkd_4 (m : Ms) (h : m.kd = 4) : m.formed = m.rformed := by
 rw [Bool.eq_iff_iff]
 unfold T.Ms.formed T.Ms.fit T.Ms.sound T.Ms.rformed T.Ms.rfirst T.Ms.rsecond
 rw [only_4 m h, SameC_comm m.c Cm.zero, SameT_comm m.t Tn.zero]
 unfold T.Ms.same
 simp only [h, fields_4, Tn.formed, T.uB, T.uS, T.uH, T.uC, T.uT, T.uI, T.uG, T.uP, T.uY, T.uN, T.uK, T.uV, T.uD, Ms.zero]
 cases hh : m.ha <;> simp [SameC_refl, SameT_refl, Lib.toList_data] <;> (try simp only [decide_eq_true_eq]) <;> grind
theorem fkd_5 (m : Ms) (h : m.kd = 5) : m.formed = m.rformed := by
 rw [Bool.eq_iff_iff]
 unfold T.Ms.formed T.Ms.fit T.Ms.sound T.Ms.rformed T.Ms.rfirst T.Ms.rsecond
 rw [only_5 m h, SameC_comm m.c Cm.zero, SameT_comm m.t Tn.zero]
 unfold T.Ms.same
 simp only [h, fields_5, Tn.formed, T.uB, T.uS, T.uH, T.uC, T.uT, T.uI, T.uG, T.uP, T.uY, T.uN, T.uK, T.uV, T.uD, Ms.zero]
 cases hh : m.ha <;> simp [SameC_refl, SameT_refl, Lib.toList_data] <;> (try simp only [decide_eq_true_eq]) <;> grind
theorem fkd_6 (m : Ms) (h : m.kd = 6) : m.formed = m.rformed := by
 rw [Bool.eq_iff_iff]
 unfold T.Ms.formed T.Ms.fit T.Ms.sound T.Ms.rformed T.Ms.rfirst T.Ms.rsecond
 rw [only_6 m h, SameC_comm m.c Cm.zero, SameT_comm m.t Tn.zero]
 unfold T.Ms.same
 simp only [h, fields_6, Tn.formed, T.uB, T.uS, T.uH, T.uC, T.uT, T.uI, T.uG, T.uP, T.uY, T.uN, T.uK, T.uV, T.uD, Ms.zero]
 cases hh : m.ha <;> simp [SameC_refl, SameT_refl, Lib.toList_data] <;> (try simp only [decide_eq_true_eq]) <;> grind
theorem fkd_7 (m : Ms) (h : m.kd = 7) : m.formed = m.rformed := by
 rw [Bool.eq_iff_iff]
 unfold T.Ms.formed T.Ms.fit T.Ms.sound T.Ms.rformed T.Ms.rfirst T.Ms.rsecond
 rw [only_7 m h, SameC_comm m.c Cm.zero, SameT_comm m.t Tn.zero]
 unfold T.Ms.same
 simp only [h, fields_7, Tn.formed, T.uB, T.uS, T.uH, T.uC, T.uT, T.uI, T.uG, T.uP, T.uY, T.uN, T.uK, T.uV, T.uD, Ms.zero]
 cases hh : m.ha <;> simp [SameC_refl, SameT_refl, Lib.toList_data] <;> (try simp only [decide_eq_true_eq]) <;> grind
theorem fkd_8 (m : Ms) (h : m.kd = 8) : m.formed = m.rformed := by
 rw [Bool.eq_iff_iff]
 unfold T.Ms.formed T.Ms.fit T.Ms.sound T.Ms.rformed T.Ms.rfirst T.Ms.rsecond
 rw [only_8 m h, SameC_comm m.c Cm.zero, SameT_comm m.t Tn.zero]
 unfold T.Ms.same
 simp only [h, fields_8, Tn.formed, T.uB, T.uS, T.uH, T.uC, T.uT, T.uI, T.uG, T.uP, T.uY, T.uN, T.uK, T.uV, T.uD, Ms.zero]
 cases hh : m.ha <;> simp [SameC_refl, SameT_refl, Lib.toList_data] <;> (try simp only [decide_eq_true_eq]) <;> grind
theorem fkd_9 (m : Ms) (h : m.kd = 9) : m.formed = m.rformed := by
 rw [Bool.eq_iff_iff]
 unfold T.Ms.formed T.Ms.fit T.Ms.sound T.Ms.rformed T.Ms.rfirst T.Ms.rsecond
 rw [only_9 m h, SameC_comm m.c Cm.zero, SameT_comm m.t Tn.zero]
 unfold T.Ms.same
 simp only [h, fields_9, Tn.formed, T.uB, T.uS, T.uH, T.uC, T.uT, T.uI, T.uG, T.uP, T.uY, T.uN, T.uK, T.uV, T.uD, Ms.zero]
 cases hh : m.ha <;> simp [SameC_refl, SameT_refl, Lib.toList_data] <;> (try simp only [decide_eq_true_eq]) <;> grind
theorem fkd_10 (m : Ms) (h : m.kd = 10) : m.formed = m.rformed := by
 rw [Bool.eq_iff_iff]
 unfold T.Ms.formed T.Ms.fit T.Ms.sound T.Ms.rformed T.Ms.rfirst T.Ms.rsecond
 rw [only_10 m h, SameC_comm m.c Cm.zero, SameT_comm m.t Tn.zero]
 unfold T.Ms.same
 simp only [h, fields_10, Tn.formed, T.uB, T.uS, T.uH, T.uC, T.uT, T.uI, T.uG, T.uP, T.uY, T.uN, T.uK, T.uV, T.uD, Ms.zero]
 cases hh : m.ha <;> simp [SameC_refl, SameT_refl, Lib.toList_data] <;> (try simp only [decide_eq_true_eq]) <;> grind
theorem fkd_11 (m : Ms) (h : m.kd = 11) : m.formed = m.rformed := by
 rw [Bool.eq_iff_iff]
 unfold T.Ms.formed T.Ms.fit T.Ms.sound T.Ms.rformed T.Ms.rfirst T.Ms.rsecond
 rw [only_11 m h, SameC_comm m.c Cm.zero, SameT_comm m.t Tn.zero]
 unfold T.Ms.same
 simp only [h, fields_11, Tn.formed, T.uB, T.uS, T.uH, T.uC, T.uT, T.uI, T.uG, T.uP, T.uY, T.uN, T.uK, T.uV, T.uD, Ms.zero]
 cases hh : m.ha <;> simp [SameC_refl, SameT_refl, Lib.toList_data] <;> (try simp only [decide_eq_true_eq]) <;> grind
theorem fkd_12 (m : Ms) (h : m.kd = 12) : m.formed = m.rformed := by
 rw [Bool.eq_iff_iff]
 unfold T.Ms.formed T.Ms.fit T.Ms.sound T.Ms.rformed T.Ms.rfirst T.Ms.rsecond
 rw [only_12 m h, SameC_comm m.c Cm.zero, SameT_comm m.t Tn.zero]
 unfold T.Ms.same
 simp only [h, fields_12, Tn.formed, T.uB, T.uS, T.uH, T.uC, T.uT, T.uI, T.uG, T.uP, T.uY, T.uN, T.uK, T.uV, T.uD, Ms.zero]
 cases hh : m.ha <;> simp [SameC_refl, SameT_refl, Lib.toList_data] <;> (try simp only [decide_eq_true_eq]) <;> grind
theorem fkd_13 (m : Ms) (h : m.kd = 13) : m.formed = m.rformed := by
 rw [Bool.eq_iff_iff]
 unfold T.Ms.formed T.Ms.fit T.Ms.sound T.Ms.rformed T.Ms.rfirst T.Ms.rsecond
 rw [only_13 m h, SameC_comm m.c Cm.zero, SameT_comm m.t Tn.zero]
 unfold T.Ms.same
 simp only [h, fields_13, Tn.formed, T.uB, T.uS, T.uH, T.uC, T.uT, T.uI, T.uG, T.uP, T.uY, T.uN, T.uK, T.uV, T.uD, Ms.zero]
 cases hh : m.ha <;> simp [SameC_refl, SameT_refl, Lib.toList_data] <;> (try simp only [decide_eq_true_eq]) <;> grind
theorem fkd_14 (m : Ms) (h : m.kd = 14) : m.formed = m.rformed := by
 rw [Bool.eq_iff_iff]
 unfold T.Ms.formed T.Ms.fit T.Ms.sound T.Ms.rformed T.Ms.rfirst T.Ms.rsecond
 rw [only_14 m h, SameC_comm m.c Cm.zero, SameT_comm m.t Tn.zero]
 unfold T.Ms.same
 simp only [h, fields_14, Tn.formed, T.uB, T.uS, T.uH, T.uC, T.uT, T.uI, T.uG, T.uP, T.uY, T.uN, T.uK, T.uV, T.uD, Ms.zero]
 cases hh : m.ha <;> simp [SameC_refl, SameT_refl, Lib.toList_data] <;> (try simp only [decide_eq_true_eq]) <;> grind
theorem fkd_15 (m : Ms) (h : m.kd = 15) : m.formed = m.rformed := by
 rw [Bool.eq_iff_iff]
 unfold T.Ms.formed T.Ms.fit T.Ms.sound T.Ms.rformed T.Ms.rfirst T.Ms.rsecond
 rw [only_15 m h, SameC_comm m.c Cm.zero, SameT_comm m.t Tn.zero]
 unfold T.Ms.same
 simp only [h, fields_15, Tn.formed, T.uB, T.uS, T.uH, T.uC, T.uT, T.uI, T.uG, T.uP, T.uY, T.uN, T.uK, T.uV, T.uD, Ms.zero]
 cases hh : m.ha <;> simp [SameC_refl, SameT_refl, Lib.toList_data] <;> (try simp only [decide_eq_true_eq]) <;> grind
theorem formed_eq (m : Ms) : m.formed = m.rformed := by
 by_cases k1 : m.kd = 1
 ·exact fkd_1 m k1
 by_cases k2 : m.kd = 2
 ·exact fkd_2 m k2
 by_cases k3 : m.kd = 3
 ·exact fkd_3 m k3
 by_cases k4 : m.kd = 4
 ·exact fkd_4 m k4
 by_cases k5 : m.kd = 5
 ·exact fkd_5 m k5
 by_cases k6 : m.kd = 6
 ·exact fkd_6 m k6
 by_cases k7 : m.kd = 7
 ·exact fkd_7 m k7
 by_cases k8 : m.kd = 8
 ·exact fkd_8 m k8
 by_cases k9 : m.kd = 9
 ·exact fkd_9 m k9
 by_cases k10 : m.kd = 10
 ·exact fkd_10 m k10
 by_cases k11 : m.kd = 11
 ·exact fkd_11 m k11
 by_cases k12 : m.kd = 12
 ·exact fkd_12 m k12
 by_cases k13 : m.kd = 13
 ·exact fkd_13 m k13
 by_cases k14 : m.kd = 14
 ·exact fkd_14 m k14
 by_cases k15 : m.kd = 15
 ·exact fkd_15 m k15
 have hf : fieldsOf m.kd = [] := by unfold fieldsOf; simp only [k1, k2, k3, k4, k5, k6, k7, k8, k9, k10, k11, k12, k13, k14, k15, if_false, or_self]
 have h1 : m.formed = false := by unfold T.Ms.formed T.Ms.fit; rw [hf]; simp
 have h2 : m.rformed = false := by
  unfold T.Ms.rformed
  by_cases q : m.kd < 1
  ·simp [q]
  ·have : m.kd > 15 := by omega
   simp [this]
 rw [h1, h2]
end Go.Proofs.YtjofjpmhokjhnaaGreatDoor
namespace Go.Proofs.YtjofjpmhokjhnaaGreatDoor
set_option maxRecDepth 20001
open Go.RowKit T
theorem t1 (s : C.St) : (C.take 1 s).1 < 256 := take_lt 1 s (by omega)
theorem t4 (s : C.St) : (C.take 4 s).1 < 4294967296 := take_lt 4 s (by omega)
theorem w1 (s : C.St) : IntKind.i64.wrap ((C.take 1 s).1 : Int) = ((C.take 1 s).1 : Int) := wrapI (by have := t1 s; omega)
theorem w1k (l : List UInt8) : IntKind.i64.wrap ((C.take 1 (l, false)).1 : Int) = rk l := w1 (l, false)
theorem w4 (s : C.St) : IntKind.i64.wrap ((C.take 4 s).1 : Int) = ((C.take 4 s).1 : Int) := wrapI (by have := t4 s; omega)
theorem CtK.newC {w0 z : World} {g a b d : Nat} {m : Ms} {y : Cm} (h : CtK z g a b d m) (f : ∀ z' : World, (∀ i, w0.heap.size ≤ i → i < z.heap.size → z'.heap[i]? = z.heap[i]?) → CmOk z' z'.heap.size y) (l1 : g < w0.heap.size) (l2 : a < w0.heap.size) (l3 : b < w0.heap.size) (l4 : d < w0.heap.size) : CtK z g a b d { m with c := y } :=
 fun z' h' => ⟨f z' fun i h1 h2 => h' i h2 (by omega) (by omega) (by omega) (by omega), (h z' h').2⟩
theorem new_s {w z : World} {b : Value} {l : List UInt8} (ee : Below w.heap.size w z) (h : SlB w w.heap.size b l) : Calls Tryz.prog 38 #[b] z fun e w' => e = .returned (.pointer (some ⟨z.heap.size, 0, none⟩)) ∧ RdrAt w' w.heap.size z.heap.size (l, false) ∧ Below z.heap.size z w' := by
 obtain ⟨A, c, rfl, h1, h2, h3, h4⟩ := h
 exact new_any A c l z w.heap.size h1 h2 h3 (h4.belowM ee (Nat.le_refl _)) ee.size
theorem rdrOwn {z z' : World} {B g : Nat} {v : Value} {l : List UInt8} {s : C.St} (h : RdrAt z B g s) (ho : OwnB z B v l) (hg : z.grownBy z' v.ownBlock) : RdrAt z' B g s := by
 obtain ⟨A, c, hb, h1, h2, h3, h4, h5⟩ := h
 refine ⟨A, c, heapKind ho hg (by decide) hb, h1, h2, h3, fun j u hu => ?_, h5⟩
 obtain ⟨b, off, e1, e2, e3⟩ := h4 j u hu
 exact ⟨b, off, e1, e2, (World.cell?_of_block (hg.block b (World.block_lt_of_cell? z _ e3) (fun e => by have := (ho.lt b e.symm).1; omega))).trans e3⟩
theorem CtK.rowB {z : World} {g a b d : Nat} {m : Ms} (h : CtK z g a b d m) (cs : Array Value) : CtK (z.setRow b cs) g a b d m := h.step (by rw [setRow_size]; exact Nat.le_refl _) fun i _ _ _ hb _ => setRow_other z b i cs hb
theorem TabsAt.belowM {w z : World} {B : Nat} (h : TabsAt B w) (hb : Below w.heap.size w z) : TabsAt B z := h.belowS hb
theorem bequal_s {z : World} {b c : Value} {l m : List UInt8} (h : SlB z z.heap.size b l) (g : SlB z z.heap.size c m) (w : World) (hw : w = z := by rfl) : Calls Tryz.prog 43 #[b, c] w fun e w' => e = .returned (.bool (decide (l = m))) ∧ w = w' := by
 subst hw
 obtain ⟨A, c1, rfl, _, _, _, h5⟩ := h
 obtain ⟨A2, c2, rfl, _, _, _, g5⟩ := g
 exact bequal_any A c1 l A2 c2 m w.heap.size w h5 g5
theorem SameC_cong {x y z : Cm} (h : SameC x y = true) : SameC x z = SameC y z := by
 obtain ⟨h1, h2, h3, h4, h5, h6, h7, h8, h9, h10⟩ := (SameC_iff x y).1 h
 unfold SameC
 rw [h1, h2, h3, h4, h5, h6, h7, h8, h9, h10]
theorem T.Like.formed {a b : Ms} (h : Like a b) : a.formed = b.formed := by
 rw [formed_eq, formed_eq]
 unfold T.Ms.rformed T.Ms.rfirst T.Ms.rsecond T.Tn.formed SameT
 rw [h.kd, h.br, h.bn, h.sl, h.ha, h.vr, h.vn, SameC.formed h.c, SameC_cong h.c, h.ts, h.tq, h.tr, h.tw, h.ii, h.ij, h.g, h.st, h.ye, h.nu, h.ky, h.ve, h.vk, h.vb, h.vt, h.er, h.dt]
def T.dn (s : C.St) : Nat := min (C.take 4 s).1 (C.left (C.take 4 s).2)
theorem some_left (n : Nat) (s : C.St) : (C.some_ n s).2.1.length ≤ s.1.length := by
 unfold C.some_
 split
 ·exact Nat.le_refl _
 ·rw [List.length_drop]; omega
theorem take_left (n : Int) (s : C.St) : (C.take n s).2.1.length ≤ s.1.length := by
 unfold C.take
 split
 ·exact Nat.le_refl _
 ·exact some_left _ _
end Go.Proofs.YtjofjpmhokjhnaaGreatDoor
namespace Go.Proofs.YtjofjpmhokjhnaaGreatDoor
set_option maxRecDepth 20001
open Go.RowKit T
namespace T
def restOf (s : C.St) : List UInt8 := if s.2 = true then [] else s.1
def rcm (l : List UInt8) : Rc :=
 if rk l = 1 then { Rc.zero with kd := rk l, br := (B.take (C.take 1 (l, false)).2).1.1, bn := ((B.take (C.take 1 (l, false)).2).1.2 : Int) }
 else if rk l = 2 then { Rc.zero with kd := rk l, br := (B.take (C.take 1 (l, false)).2).1.1, bn := ((B.take (C.take 1 (l, false)).2).1.2 : Int), sl := ((C.take 4 (B.take (C.take 1 (l, false)).2).2).1 : Int), c := (ctake (C.take 4 (B.take (C.take 1 (l, false)).2).2).2).1 }
 else if rk l = 3 then { Rc.zero with kd := rk l, sl := ((C.take 4 (C.take 1 (l, false)).2).1 : Int), c := (ctake (C.take 4 (C.take 1 (l, false)).2).2).1 }
 else if rk l = 4 then { Rc.zero with kd := rk l, sl := ((C.take 4 (C.take 1 (l, false)).2).1 : Int), dt := restOf (C.take 4 (C.take 4 (C.take 1 (l, false)).2).2).2 }
 else { Rc.zero with kd := rk l, sl := ((C.take 4 (C.take 1 (l, false)).2).1 : Int) }
structure LikeR (a b : Rc) : Prop where
 kd : a.kd = b.kd
 br : a.br = b.br
 bn : a.bn = b.bn
 sl : a.sl = b.sl
 c : SameC a.c b.c = true
 dt : a.dt = b.dt
def rcok (l : List UInt8) : Bool := (rcm l).formed && decide (l = (rcm l).wr)
end T
theorem LikeR.refl (a : Rc) : LikeR a a := ⟨rfl, rfl, rfl, rfl, SameC_self _, rfl⟩
theorem T.LikeR.symm {a b : Rc} (h : LikeR a b) : LikeR b a := ⟨h.kd.symm, h.br.symm, h.bn.symm, h.sl.symm, SameC.symm h.c, h.dt.symm⟩
theorem T.LikeR.trans {a b c : Rc} (h : LikeR a b) (g : LikeR b c) : LikeR a c := ⟨h.kd.trans g.kd, h.br.trans g.br, h.bn.trans g.bn, h.sl.trans g.sl, SameC.trans h.c g.c, h.dt.trans g.dt⟩
theorem T.LikeR.wr {a b : Rc} (h : LikeR a b) : a.wr = b.wr := by
 unfold T.Rc.wr
 rw [h.kd, h.br, h.bn, h.sl, SameC.put h.c, SameC.put h.c, h.dt]
theorem slSuf {w : World} {B k cp : Nat} {A : Option Addr} {l : List UInt8} (h : SlB w B (.slice A l.length cp) l) (hk : k ≤ l.length) : SlB w B (.slice (if cp = k then A else A.map (·.add k)) (l.length - k) (cp - k)) (l.drop k) := by
 obtain ⟨A2, c2, e1, h2, h3, h4, h5⟩ := h
 injection e1 with e6 e7 e8
 subst e6; subst e8
 have hcut := h5.cut (k := k) (cap := cp) (by rw [bc_len]; exact h2)
 rw [bc_drop] at hcut
 refine ⟨_, cp - k, by rw [List.length_drop], by rw [List.length_drop]; omega, by unfold maxLen at *; omega, fun e => ?_, hcut⟩
 split at e
 ·obtain ⟨rfl, rfl⟩ := h4 e; simp
 ·simp at e
  obtain ⟨rfl, rfl⟩ := h4 e; simp
theorem exec_slice_l {a : Act} {o : Oper} {w : World} (x lo : Operand) {A : Option Addr} {len cap k : Nat} (ho : o.op = .slice 34 x (some lo) none none) (hx : a.eval x = .slice A len cap) (hh : a.eval lo = .int .i64 (k : Int)) (h2 : k ≤ len) :
 (execOp a.eval o).run Tryz.prog w = .ok (.value (.slice (if cap = k then A else A.map (·.add k)) (len - k) (cap - k))) w := by
 have q := run_slice_l (P := Tryz.prog) (w := w) 34 A len cap (by kernel_rfl) .i64 (k : Int) (by omega) (by omega)
 have hz : (sizeOf (Tryz.prog.elem 34)).run Tryz.prog w = .ok 1 w := by kernel_rfl
 rw [hz] at q
 simp only [Result.andThen_ok, sliced, Nat.mul_one, Int.toNat_natCast] at q
 unfold execOp
 simp only [ho, hx, hh, Option.map_some, Option.map_none, Sem.run_bind, Sem.run_pure, Result.andThen_ok, run_sliceAt_slice (P := Tryz.prog) (w := w) 34 _ _ _ _ (by kernel_rfl), q]
theorem runOf {P : Program} {ops : Array Oper} {a : Act} {w : World} {i : Nat} {o : Oper} {r : Result Next} (ho : ops[i]? = some o) (h : (execOp a.eval o).run P w = r) : runAt P ops a w i = some r := by unfold runAt; rw [ho]; exact congrArg some h
def Suf (l : List UInt8) (s : C.St) : Prop := ∃ j, j ≤ l.length ∧ s.1 = l.drop j
theorem suf_take (n : Int) (l : List UInt8) (s : C.St) (h : Suf l s) : Suf l (C.take n s).2 := by
 obtain ⟨j, hj, e⟩ := h
 unfold C.take
 split
 ·exact ⟨j, hj, e⟩
 ·show Suf l (C.some_ n.toNat s).2
  unfold C.some_
  split
  ·exact ⟨j, hj, e⟩
  ·rename_i hn
   have : ¬ s.1.length < n.toNat := fun q => hn (Or.inr q)
   rw [e, List.length_drop] at this
   exact ⟨j + n.toNat, by omega, by rw [e, List.drop_drop]⟩
theorem suf_rest (l : List UInt8) (s : C.St) (h : Suf l s) : C.left s ≤ l.length ∧ l.drop (l.length - C.left s) = restOf s := by
 obtain ⟨j, hj, e⟩ := h
 unfold C.left restOf
 cases s.2 with
 | true => simp
 | false =>
   simp only [Bool.false_eq_true, if_false]
   rw [e, List.length_drop]
   exact ⟨by omega, by rw [show l.length - (l.length - j) = j by omega]⟩
theorem T.LikeR.formed {a b : Rc} (h : LikeR a b) : a.formed = b.formed := by
 unfold T.Rc.formed T.Rc.only
 rw [h.kd, h.bn, h.sl, SameC.formed h.c, h.dt]
 by_cases h1 : b.kd = 1
 ·rw [if_pos h1, if_pos h1]; unfold T.Rc.same; simp only [h.kd, h.br, h.bn, h.sl, h.dt, SameC_cong h.c]
 by_cases h2 : b.kd = 2
 ·rw [if_neg h1, if_pos h2, if_neg h1, if_pos h2]; unfold T.Rc.same; simp only [h.kd, h.br, h.bn, h.sl, h.dt, SameC_self]
 by_cases h3 : b.kd = 3
 ·rw [if_neg h1, if_neg h2, if_pos h3, if_neg h1, if_neg h2, if_pos h3]; unfold T.Rc.same; simp only [h.kd, h.br, h.bn, h.sl, h.dt, SameC_self]
 by_cases h4 : b.kd = 4
 ·rw [if_neg h1, if_neg h2, if_neg h3, if_pos h4, if_neg h1, if_neg h2, if_neg h3, if_pos h4]; unfold T.Rc.same; simp only [h.kd, h.br, h.bn, h.sl, h.dt, SameC_cong h.c]
 rw [if_neg h1, if_neg h2, if_neg h3, if_neg h4, if_neg h1, if_neg h2, if_neg h3, if_neg h4]; unfold T.Rc.same; simp only [h.kd, h.br, h.bn, h.sl, h.dt, SameC_cong h.c]
theorem rcok_yes {m : Rc} {l l1 : List UInt8} {x : Int} (lk : LikeR m (rcm l)) (hx : x = (bif m.formed then 0 else 2)) (hl : l1 = (bif m.formed then m.wr else [])) (h0 : x = 0) (he : l = l1) : rcok l = true := by
 unfold rcok
 cases hf : m.formed with
 | false => rw [hf] at hx; simp at hx; omega
 | true => rw [hf] at hl; rw [← lk.formed, ← lk.wr, hf, he, hl]; simp
theorem rcok_no {m : Rc} {l l1 : List UInt8} {x : Int} (lk : LikeR m (rcm l)) (hx : x = (bif m.formed then 0 else 2)) (hl : l1 = (bif m.formed then m.wr else [])) (h : ¬ x = 0 ∨ x = 0 ∧ ¬ l = l1) : rcok l = false := by
 unfold rcok
 cases hf : m.formed with
 | false => rw [← lk.formed, hf]; rfl
 | true =>
   rw [hf] at hl hx
   simp only [cond_true] at hl hx
   rcases h with h | ⟨_, h⟩
   ·exact absurd hx h
   ·rw [← lk.wr, ← hl]; simp [h]
theorem rcm_data (l : List UInt8) : (rcm l).dt.length ≤ l.length := by
 have h1 := take_left 1 (l, false)
 have h2 := take_left 4 (C.take 1 (l, false)).2
 have h3 := take_left 4 (C.take 4 (C.take 1 (l, false)).2).2
 simp only at h1
 unfold rcm
 split
 ·exact Nat.zero_le _
 split
 ·exact Nat.zero_le _
 split
 ·exact Nat.zero_le _
 split
 ·show (restOf _).length ≤ _
  unfold restOf
  split
  ·exact Nat.zero_le _
  ·omega
 ·exact Nat.zero_le _
end Go.Proofs.YtjofjpmhokjhnaaGreatDoor
namespace Go.Proofs.YtjofjpmhokjhnaaGreatDoor
set_option maxRecDepth 20001
open Go.RowKit T
structure Goes {α : Type} (f : C.St → α × C.St) : Prop where
 sticky : ∀ l, (f (l, true)).2.2 = true
 more : ∀ p r x q, f (p, false) = (x, (q, false)) → f (p ++ r, false) = (x, (q ++ r, false))
theorem some_goes (n : Nat) : Goes (C.some_ n) := by
 constructor
 ·intro l; unfold C.some_; rw [if_pos (Or.inl rfl)]
 ·intro p r x q h
  unfold C.some_ at h ⊢
  by_cases hl : p.length < n
  ·rw [if_pos (Or.inr hl)] at h; injection h with _ h; injection h with _ h; exact Bool.noConfusion h
  ·rw [if_neg (by simp; omega)] at h
   injection h with h1 h2
   injection h2 with h2 _
   rw [if_neg (by simp; omega)]
   subst h1; subst h2
   simp only [List.take_append_of_le_length (show n ≤ p.length by omega), List.drop_append_of_le_length (show n ≤ p.length by omega)]
theorem take_goes (n : Int) : Goes (C.take n) := by
 constructor
 ·intro l; unfold C.take; split
  ·rfl
  ·exact (some_goes n.toNat).sticky l
 ·intro p r x q h
  unfold C.take at h ⊢
  split at h
  ·injection h with _ h; injection h with _ h; exact Bool.noConfusion h
  ·rename_i hn
   rw [if_neg hn]
   have e : C.some_ n.toNat (p, false) = ((C.some_ n.toNat (p, false)).1, (q, false)) := by
    injection h with h1 h2; rw [← h2]
   have := (some_goes n.toNat).more p r _ q e
   rw [this]
   injection h with h1 h2
   rw [← h1]
theorem Goes.of {α β γ : Type} {f : C.St → α × C.St} {g : α → C.St → β × C.St} (k : α → β → γ) (hf : Goes f) (hg : ∀ a, Goes (g a)) : Goes (fun s => (k (f s).1 (g (f s).1 (f s).2).1, (g (f s).1 (f s).2).2)) := by
 constructor
 ·intro l
  have h := hf.sticky l
  generalize f (l, true) = a at h
  obtain ⟨x, q, b⟩ := a
  simp only at h
  subst h
  exact (hg x).sticky q
 ·intro p r z q h
  cases ha : f (p, false) with
  | mk x s =>
    obtain ⟨m, b⟩ := s
    rw [ha] at h
    simp only at h
    cases b with
    | true =>
      injection h with _ h
      have := (hg x).sticky m
      rw [h] at this; exact Bool.noConfusion this
    | false =>
      have h1 := hf.more p r x m ha
      injection h with h2 h3
      have h4 := (hg x).more m r _ q (Prod.ext (rfl : (g x (m, false)).1 = _) h3)
      rw [h1]
      simp only
      rw [h4, ← h2]
theorem Goes.if_ {α : Type} {f : C.St → α × C.St} (hf : Goes f) (z : α) (ok : α → Bool) : Goes (fun s => bif (f s).2.2 || !ok (f s).1 then (z, ((f s).2.1, true)) else f s) := by
 constructor
 ·intro l
  show (bif (f (l, true)).2.2 || _ then (z, ((f (l, true)).2.1, true)) else f (l, true)).2.2 = true
  rw [hf.sticky l]; rfl
 ·intro p r x q h
  cases ha : f (p, false) with
  | mk y s =>
    obtain ⟨m, b⟩ := s
    simp only [ha] at h
    cases b with
    | true => injection h with _ h; injection h with _ h; exact Bool.noConfusion h
    | false =>
      cases ho : ok y with
      | false => rw [ho] at h; injection h with _ h; injection h with _ h; exact Bool.noConfusion h
      | true =>
        rw [ho] at h
        injection h with h1 h2
        injection h2 with h2 _
        subst h1; subst h2
        simp only [hf.more p r _ _ ha, ho]
        rfl
theorem pure_goes {α : Type} (x : α) : Goes (fun s => (x, s)) := ⟨fun _ => rfl, fun p r y q h => by injection h with h1 h2; injection h2 with h2 _; subst h1; subst h2; rfl⟩
theorem text_goes (most : Int) : Goes (C.text most) := by
 have e : C.text most = fun s => ((C.some_ (C.take 2 s).1 ((C.take 2 s).2.1, (C.take 2 s).2.2 || decide (most < ((C.take 2 s).1 : Int)))).1, (C.some_ (C.take 2 s).1 ((C.take 2 s).2.1, (C.take 2 s).2.2 || decide (most < ((C.take 2 s).1 : Int)))).2) := rfl
 rw [e]
 refine Goes.of (f := C.take 2) (g := fun n s => C.some_ n (s.1, s.2 || decide (most < (n : Int)))) (fun _ b => b) (take_goes 2) fun n => ⟨fun l => (some_goes n).sticky l, fun p r x q h => ?_⟩
 cases hd : decide (most < (n : Int)) with
 | true => simp only [hd] at h; have := (some_goes n).sticky p; rw [show ((p, false).2 || true) = true from rfl] at h; rw [h] at this; exact Bool.noConfusion this
 | false => simp only [hd] at h ⊢; exact (some_goes n).more p r x q h
theorem vtake0_goes : Goes V.take0 := by
 have e : V.take0 = fun s => ((fun (_ : Nat) (b : Nat × Nat × List UInt8) => b) (C.take 1 s).1 ((if (C.take 1 s).1 = 1 then ((1, (C.take 8 (C.take 1 s).2).1, []), (C.take 8 (C.take 1 s).2).2) else if (C.take 1 s).1 = 2 then ((2, 0, (C.text 40 (C.take 1 s).2).1), (C.text 40 (C.take 1 s).2).2) else (((C.take 1 s).1, 0, []), (C.take 1 s).2) : (Nat × Nat × List UInt8) × C.St)).1,
  ((if (C.take 1 s).1 = 1 then ((1, (C.take 8 (C.take 1 s).2).1, []), (C.take 8 (C.take 1 s).2).2) else if (C.take 1 s).1 = 2 then ((2, 0, (C.text 40 (C.take 1 s).2).1), (C.text 40 (C.take 1 s).2).2) else (((C.take 1 s).1, 0, []), (C.take 1 s).2) : (Nat × Nat × List UInt8) × C.St)).2) := rfl
 rw [e]
 refine Goes.of (f := C.take 1) (g := fun k s => if k = 1 then ((1, (C.take 8 s).1, []), (C.take 8 s).2) else if k = 2 then ((2, 0, (C.text 40 s).1), (C.text 40 s).2) else ((k, 0, []), s)) (fun _ b => b) (take_goes 1) fun k => ?_
 by_cases h1 : k = 1
 ·simp only [if_pos h1]; exact Goes.of (f := C.take 8) (g := fun x s => ((), s)) (fun x _ => ((1, x, []) : Nat × Nat × List UInt8)) (take_goes 8) fun x => pure_goes ()
 ·by_cases h2 : k = 2
  ·simp only [if_neg h1, if_pos h2]; exact Goes.of (f := C.text 40) (g := fun x s => ((), s)) (fun x _ => ((2, 0, x) : Nat × Nat × List UInt8)) (text_goes 40) fun x => pure_goes ()
  ·simp only [if_neg h1, if_neg h2]; exact pure_goes _
theorem vtake_goes : Goes V.take := by
 have h := vtake0_goes.if_ (0, 0, []) (fun x => V.formed x.1 x.2.1 x.2.2)
 have e : V.take = fun s => bif (V.take0 s).2.2 || !V.formed (V.take0 s).1.1 (V.take0 s).1.2.1 (V.take0 s).1.2.2 then ((0, 0, []), ((V.take0 s).2.1, true)) else V.take0 s := by
  funext s
  unfold V.take
  cases (V.take0 s).2.2 <;> cases V.formed (V.take0 s).1.1 (V.take0 s).1.2.1 (V.take0 s).1.2.2 <;> simp
 rw [e]; exact h
theorem rtake_goes : Goes rtake := Goes.of (f := C.text 12) (g := fun _ s => C.take 8 s) (fun a b => ((a, b) : Rd1)) (text_goes 12) fun _ => take_goes 8
theorem wtake_goes : Goes wtake := Goes.of (f := C.text 12) (g := fun _ s => V.take s) (fun a b => ((a, (b.1 : Int), b.2.1, b.2.2) : Wr1)) (text_goes 12) fun _ => vtake_goes
theorem many_goes {α : Type} {f : C.St → α × C.St} (hf : Goes f) : ∀ (n : Nat) (acc : List α), Goes (fun s => many f n (acc, s))
 | 0, acc => pure_goes acc
 | n + 1, acc => Goes.of (f := f) (g := fun x s => many f n (acc ++ [x], s)) (fun _ b => b) hf fun x => many_goes hf n (acc ++ [x])
end Go.Proofs.YtjofjpmhokjhnaaGreatDoor
namespace Go.Proofs.YtjofjpmhokjhnaaGreatDoor
set_option maxRecDepth 20001
open Go.RowKit T
theorem nz_nat {x : Int} (h : 0 ≤ x) (g : x < 18446744073709551616) : T.nz x = x.toNat := by unfold T.nz; omega
theorem bback (br : Nat) (bn : Int) (r : List UInt8) (h1 : br < 4294967296) (h2 : B.formed bn = true) : B.take (B.put [] br bn ++ r, false) = ((br, bn.toNat), (r, false)) := by
 have hb : 0 ≤ bn ∧ bn < 5 := by unfold B.formed at h2; simpa using h2
 have hz : T.nz bn = bn.toNat := nz_nat hb.1 (by omega)
 have e : B.put [] br bn ++ r = C.be br 4 ++ (C.be bn.toNat 1 ++ r) := by
  unfold B.put
  rw [put4, put1, hz]; simp
 unfold B.take
 rw [e, take4 br h1, take1 bn.toNat (by omega)]
 have hf : B.formed ((bn.toNat : Nat) : Int) = true := by rw [show ((bn.toNat : Nat) : Int) = bn by omega]; exact h2
 show (if false = true ∨ B.formed ((bn.toNat : Nat) : Int) = false then _ else _) = _
 rw [hf, if_neg (by simp)]
theorem putA (l : List UInt8) (x : Nat) (n : Int) : C.put l x n = l ++ C.put [] x n := by unfold C.put; simp
theorem bputA (l : List UInt8) (r : Nat) (n : Int) : B.put l r n = l ++ B.put [] r n := by
 unfold B.put; rw [putA (C.put l r 4), putA l, putA (C.put [] r 4)]; simp
theorem cputA (l : List UInt8) (x : Cm) : cput l x = l ++ cput [] x := by
 unfold cput
 cases x.formed with
 | false => simp
 | true =>
   simp only [cond_true]
   split
   ·rw [tput_app (C.put l 1 1), tput_app (C.put [] 1 1), putA l]; simp
   split
   ·rw [putA (C.put (idput (C.put l 2 1) x.i x.j) x.g.toNat 1), putA (idput (C.put l 2 1) x.i x.j), idput_app (C.put l 2 1), putA l,
     putA (C.put (idput (C.put [] 2 1) x.i x.j) x.g.toNat 1), putA (idput (C.put [] 2 1) x.i x.j), idput_app (C.put [] 2 1)]; simp
   split
   ·rw [putA (C.put (idput (C.put l 3 1) x.i x.j) x.g.toNat 1), putA (idput (C.put l 3 1) x.i x.j), idput_app (C.put l 3 1), putA l,
     putA (C.put (idput (C.put [] 3 1) x.i x.j) x.g.toNat 1), putA (idput (C.put [] 3 1) x.i x.j), idput_app (C.put [] 3 1)]; simp
   ·exact putA l 0 1
theorem put_none (m o : Ms) (c : Nat) (hB : c ≠ 66) (hS : c ≠ 83) (hH : c ≠ 72) (hC : c ≠ 67) (hT : c ≠ 84) (hI : c ≠ 73) (hG : c ≠ 71) (hP : c ≠ 80) (hY : c ≠ 89) (hN : c ≠ 78) (hK : c ≠ 75) (hV : c ≠ 86) (hX : c ≠ 88) (hE : c ≠ 69) (hD : c ≠ 68) : m.put o c = o := by
 unfold T.Ms.put
 rw [if_neg hB, if_neg hS, if_neg hH, if_neg hC, if_neg hT, if_neg hI, if_neg hG, if_neg hP, if_neg hY, if_neg hN, if_neg hK, if_neg hV, if_neg hX, if_neg hE, if_neg hD]
theorem T.Like.put {a b : Ms} (m : Ms) (h : Like a b) (c : Nat) : Like (m.put a c) (m.put b c) := by
 by_cases hB : c = 66
 ·subst hB
  exact { h with br := rfl, bn := rfl }
 by_cases hS : c = 83
 ·subst hS
  exact { h with sl := rfl }
 by_cases hH : c = 72
 ·subst hH
  show Like (if m.ha then { a with ha := m.ha, vr := m.vr, vn := m.vn, c := m.c } else { a with ha := m.ha }) (if m.ha then { b with ha := m.ha, vr := m.vr, vn := m.vn, c := m.c } else { b with ha := m.ha })
  split
  ·exact { h with ha := rfl, vr := rfl, vn := rfl, c := SameC_self _ }
  ·exact { h with ha := rfl }
 by_cases hC : c = 67
 ·subst hC
  exact { h with c := SameC_self _ }
 by_cases hT : c = 84
 ·subst hT
  exact { h with ts := rfl, tq := rfl, tr := rfl, tw := rfl }
 by_cases hI : c = 73
 ·subst hI
  exact { h with ii := rfl, ij := rfl }
 by_cases hG : c = 71
 ·subst hG
  exact { h with g := rfl }
 by_cases hP : c = 80
 ·subst hP
  exact { h with st := rfl }
 by_cases hY : c = 89
 ·subst hY
  exact { h with ye := rfl }
 by_cases hN : c = 78
 ·subst hN
  exact { h with nu := rfl }
 by_cases hK : c = 75
 ·subst hK
  exact { h with ky := rfl }
 by_cases hV : c = 86
 ·subst hV
  exact { h with ve := rfl }
 by_cases hX : c = 88
 ·subst hX
  exact { h with vk := rfl, vb := rfl, vt := rfl }
 by_cases hE : c = 69
 ·subst hE
  exact { h with er := rfl }
 by_cases hD : c = 68
 ·subst hD
  exact { h with dt := rfl }
 rw [put_none m a c hB hS hH hC hT hI hG hP hY hN hK hV hX hE hD, put_none m b c hB hS hH hC hT hI hG hP hY hN hK hV hX hE hD]
 exact h
theorem T.Like.trans {a b c : Ms} (h : Like a b) (g : Like b c) : Like a c :=
 ⟨h.kd.trans g.kd, h.br.trans g.br, h.bn.trans g.bn, h.sl.trans g.sl, h.ha.trans g.ha, h.vr.trans g.vr, h.vn.trans g.vn, SameC.trans h.c g.c, h.ts.trans g.ts, h.tq.trans g.tq, h.tr.trans g.tr, h.tw.trans g.tw, h.ii.trans g.ii, h.ij.trans g.ij, h.g.trans g.g, h.st.trans g.st, h.ye.trans g.ye, h.nu.trans g.nu, h.ky.trans g.ky, h.ve.trans g.ve, h.vk.trans g.vk, h.vb.trans g.vb, h.vt.trans g.vt, h.er.trans g.er, h.dt.trans g.dt⟩
theorem T.Like.symm {a b : Ms} (h : Like a b) : Like b a :=
 ⟨h.kd.symm, h.br.symm, h.bn.symm, h.sl.symm, h.ha.symm, h.vr.symm, h.vn.symm, SameC.symm h.c, h.ts.symm, h.tq.symm, h.tr.symm, h.tw.symm, h.ii.symm, h.ij.symm, h.g.symm, h.st.symm, h.ye.symm, h.nu.symm, h.ky.symm, h.ve.symm, h.vk.symm, h.vb.symm, h.vt.symm, h.er.symm, h.dt.symm⟩
end Go.Proofs.YtjofjpmhokjhnaaGreatDoor
namespace Go.Proofs.YtjofjpmhokjhnaaGreatDoor
set_option maxRecDepth 20001
open Go.RowKit T
theorem rc_same {a b : Rc} (h : T.Rc.same a b = true) : LikeR a b := by
 unfold T.Rc.same at h
 simp only [Bool.and_eq_true, decide_eq_true_eq] at h
 obtain ⟨⟨⟨⟨h1, h2⟩, h3⟩, h4⟩, h5⟩ := h
 exact ⟨h1, by omega, h2.2, h3, h4, h5⟩
theorem rc_sound {x : Rc} (h : x.formed = true) : LikeR x x.only ∧ B.formed x.bn = true ∧ x.c.formed = true ∧ 0 ≤ x.sl ∧ x.sl ≤ 1000000 ∧ x.dt.length ≤ 59900 := by
 unfold T.Rc.formed at h
 simp only [Bool.and_eq_true, decide_eq_true_eq] at h
 obtain ⟨⟨⟨⟨⟨⟨h1, h2⟩, h3⟩, h4⟩, h5⟩, h6⟩, h7⟩ := h
 exact ⟨rc_same h2, h3, h4, h5, h6, by omega⟩
theorem nz_sl {s : Int} (h : 0 ≤ s) (g : s ≤ 1000000) : T.nz s < 4294967296 ∧ (T.nz s : Int) = s := by unfold T.nz; omega
theorem rcm_wr (x : Rc) (hf : x.formed = true) (hb : x.br < 4294967296) (hc : Fits x.c) : LikeR (rcm x.wr) x := by
 obtain ⟨lo, s1, s2, s3, s4, s5⟩ := rc_sound hf
 obtain ⟨z1, z2⟩ := nz_sl s3 s4
 have hbn : 0 ≤ x.bn ∧ x.bn < 5 := by unfold B.formed at s1; simpa using s1
 rcases rc_kd hf with k | k | k | k
 ·have hy : x.only = { Rc.zero with kd := 1, br := x.br, bn := x.bn } := by unfold T.Rc.only; rw [if_pos k]
  rw [hy] at lo
  have e : x.wr = C.be 1 1 ++ (B.put [] x.br x.bn ++ []) := by
   unfold T.Rc.wr; rw [if_pos k, k, bputA, put1]; simp [T.nz]
  have h1 : C.take 1 (x.wr, false) = (1, (B.put [] x.br x.bn ++ [], false)) := by rw [e]; exact take1 1 (by decide) _
  have hk : rk x.wr = 1 := by unfold rk; rw [h1]; rfl
  unfold rcm
  rw [if_pos hk, hk, h1]
  simp only
  rw [bback x.br x.bn [] hb s1]
  exact ⟨k.symm, rfl, (by show ((x.bn.toNat : Nat) : Int) = x.bn; omega), lo.sl.symm, SameC.symm lo.c, lo.dt.symm⟩
 ·have hy : x.only = { Rc.zero with kd := 2, br := x.br, bn := x.bn, sl := x.sl, c := x.c } := by unfold T.Rc.only; rw [if_neg (by omega), if_pos k]
  rw [hy] at lo
  have e : x.wr = C.be 2 1 ++ (B.put [] x.br x.bn ++ (C.be (T.nz x.sl) 4 ++ (cput [] x.c ++ []))) := by
   unfold T.Rc.wr; rw [if_neg (by omega), if_pos k, k, cputA, put4, bputA, put1]; simp [T.nz]
  have h1 : C.take 1 (x.wr, false) = (2, (B.put [] x.br x.bn ++ (C.be (T.nz x.sl) 4 ++ (cput [] x.c ++ [])), false)) := by rw [e]; exact take1 2 (by decide) _
  have hk : rk x.wr = 2 := by unfold rk; rw [h1]; rfl
  obtain ⟨y, hy1, hy2⟩ := cback x.c [] s2 hc
  unfold rcm
  rw [if_neg (by omega), if_pos hk, hk, h1]
  simp only
  rw [bback x.br x.bn _ hb s1]
  simp only
  rw [take4 _ z1]
  simp only
  rw [hy1]
  exact ⟨k.symm, rfl, (by show ((x.bn.toNat : Nat) : Int) = x.bn; omega), z2, hy2, lo.dt.symm⟩
 ·have hy : x.only = { Rc.zero with kd := 3, sl := x.sl, c := x.c } := by unfold T.Rc.only; rw [if_neg (by omega), if_neg (by omega), if_pos k]
  rw [hy] at lo
  have e : x.wr = C.be 3 1 ++ (C.be (T.nz x.sl) 4 ++ (cput [] x.c ++ [])) := by
   unfold T.Rc.wr; rw [if_neg (by omega), if_neg (by omega), if_pos k, k, cputA, put4, put1]; simp [T.nz]
  have h1 : C.take 1 (x.wr, false) = (3, (C.be (T.nz x.sl) 4 ++ (cput [] x.c ++ []), false)) := by rw [e]; exact take1 3 (by decide) _
  have hk : rk x.wr = 3 := by unfold rk; rw [h1]; rfl
  obtain ⟨y, hy1, hy2⟩ := cback x.c [] s2 hc
  unfold rcm
  rw [if_neg (by omega), if_neg (by omega), if_pos hk, hk, h1]
  simp only
  rw [take4 _ z1]
  simp only
  rw [hy1]
  exact ⟨k.symm, lo.br.symm, lo.bn.symm, z2, hy2, lo.dt.symm⟩
 ·have hy : x.only = { Rc.zero with kd := 4, sl := x.sl, dt := x.dt, D := x.D, dc := x.dc } := by unfold T.Rc.only; rw [if_neg (by omega), if_neg (by omega), if_neg (by omega), if_pos k]
  rw [hy] at lo
  have e : x.wr = C.be 4 1 ++ (C.be (T.nz x.sl) 4 ++ (C.be x.dt.length 4 ++ x.dt)) := by
   unfold T.Rc.wr; rw [if_neg (by omega), if_neg (by omega), if_neg (by omega), k, put4, put4, put1]; simp [T.nz]
  have h1 : C.take 1 (x.wr, false) = (4, (C.be (T.nz x.sl) 4 ++ (C.be x.dt.length 4 ++ x.dt), false)) := by rw [e]; exact take1 4 (by decide) _
  have hk : rk x.wr = 4 := by unfold rk; rw [h1]; rfl
  unfold rcm
  rw [if_neg (by omega), if_neg (by omega), if_neg (by omega), if_pos hk, hk, h1]
  simp only
  rw [take4 _ z1]
  simp only
  rw [take4 _ (by omega)]
  exact ⟨k.symm, lo.br.symm, lo.bn.symm, z2, SameC.symm lo.c, rfl⟩
theorem rcok_wr (x : Rc) (hf : x.formed = true) (hb : x.br < 4294967296) (hc : Fits x.c) : rcok x.wr = true := by
 have h := rcm_wr x hf hb hc
 unfold rcok
 rw [h.formed, h.wr, hf]; simp
end Go.Proofs.YtjofjpmhokjhnaaGreatDoor
