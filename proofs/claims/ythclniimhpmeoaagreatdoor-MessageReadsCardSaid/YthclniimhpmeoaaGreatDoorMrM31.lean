import Derived.Test.YthclniimhpmeoaaGreatDoorMrM30
set_option maxHeartbeats 4000000
set_option linter.unusedSimpArgs false
set_option linter.unusedVariables false
namespace Go.Proofs.YthclniimhpmeoaaGreatDoor
set_option maxRecDepth 20000
open Go.RowKit T
theorem SameC_refl (x : Cm) : SameC x x = true := by unfold SameC; simp
theorem SameT_refl (x : Tn) : SameT x x = true := by unfold SameT; simp
theorem SameC_comm (x y : Cm) : SameC x y = SameC y x := by
 unfold SameC; rw [decide_eq_decide];constructor <;> (rintro ⟨h1, ⟨h2, h3⟩, h4, h5, h6, h7, h8, h9, h10⟩; exact ⟨h1.symm, ⟨h2.symm, h3.symm⟩, h4.symm, h5.symm, h6.symm, h7.symm, h8.symm, h9.symm, h10.symm⟩)
theorem SameT_comm (x y : Tn) : SameT x y = SameT y x := by
 unfold SameT; rw [decide_eq_decide];constructor <;> (rintro ⟨h1, h2, h3, h4⟩; exact ⟨h1.symm, h2.symm, h3.symm, h4.symm⟩)
theorem fields_1 : fieldsOf 1 = [66] := by decide
theorem fields_2 : fieldsOf 2 = [66, 83, 72] := by decide
theorem fields_3 : fieldsOf 3 = [66] := by decide
theorem fields_4 : fieldsOf 4 = [66, 83, 67] := by decide
theorem fields_5 : fieldsOf 5 = [66, 83] := by decide
theorem fields_6 : fieldsOf 6 = [83, 67] := by decide
theorem fields_7 : fieldsOf 7 = [83] := by decide
theorem fields_8 : fieldsOf 8 = [84] := by decide
theorem fields_9 : fieldsOf 9 = [73, 71, 80] := by decide
theorem fields_10 : fieldsOf 10 = [73, 71, 89] := by decide
theorem fields_11 : fieldsOf 11 = [73, 71, 80, 89] := by decide
theorem fields_12 : fieldsOf 12 = [80, 78, 75] := by decide
theorem fields_13 : fieldsOf 13 = [71, 80, 78, 75, 86, 88, 69] := by decide
theorem fields_14 : fieldsOf 14 = [78] := by decide
theorem fields_15 : fieldsOf 15 = [83, 68] := by decide
theorem only_1 (m : Ms) (h : m.kd = 1) : m.only = { Ms.zero 1 with br := m.br, bn := m.bn } := by
 unfold Ms.only;rw [h, fields_1];simp [List.foldl, Ms.put]
theorem only_2 (m : Ms) (h : m.kd = 2) : m.only = (if m.ha then { Ms.zero 2 with br := m.br, bn := m.bn, sl := m.sl, ha := true, vr := m.vr, vn := m.vn, c := m.c } else { Ms.zero 2 with br := m.br, bn := m.bn, sl := m.sl }) := by
 unfold Ms.only;rw [h, fields_2]
 cases hb : m.ha <;> simp [List.foldl, Ms.put, hb, Ms.zero]
theorem only_3 (m : Ms) (h : m.kd = 3) : m.only = { Ms.zero 3 with br := m.br, bn := m.bn } := by
 unfold Ms.only;rw [h, fields_3];simp [List.foldl, Ms.put]
theorem only_4 (m : Ms) (h : m.kd = 4) : m.only = { Ms.zero 4 with br := m.br, bn := m.bn, sl := m.sl, c := m.c } := by
 unfold Ms.only;rw [h, fields_4];simp [List.foldl, Ms.put]
theorem only_5 (m : Ms) (h : m.kd = 5) : m.only = { Ms.zero 5 with br := m.br, bn := m.bn, sl := m.sl } := by
 unfold Ms.only;rw [h, fields_5];simp [List.foldl, Ms.put]
theorem only_6 (m : Ms) (h : m.kd = 6) : m.only = { Ms.zero 6 with sl := m.sl, c := m.c } := by
 unfold Ms.only;rw [h, fields_6];simp [List.foldl, Ms.put]
theorem only_7 (m : Ms) (h : m.kd = 7) : m.only = { Ms.zero 7 with sl := m.sl } := by
 unfold Ms.only;rw [h, fields_7];simp [List.foldl, Ms.put]
theorem only_8 (m : Ms) (h : m.kd = 8) : m.only = { Ms.zero 8 with t := m.t } := by
 unfold Ms.only;rw [h, fields_8];simp [List.foldl, Ms.put]
theorem only_9 (m : Ms) (h : m.kd = 9) : m.only = { Ms.zero 9 with ii := m.ii, ij := m.ij, g := m.g, st := m.st } := by
 unfold Ms.only;rw [h, fields_9];simp [List.foldl, Ms.put]
theorem only_10 (m : Ms) (h : m.kd = 10) : m.only = { Ms.zero 10 with ii := m.ii, ij := m.ij, g := m.g, ye := m.ye } := by
 unfold Ms.only;rw [h, fields_10];simp [List.foldl, Ms.put]
theorem only_11 (m : Ms) (h : m.kd = 11) : m.only = { Ms.zero 11 with ii := m.ii, ij := m.ij, g := m.g, st := m.st, ye := m.ye } := by
 unfold Ms.only;rw [h, fields_11];simp [List.foldl, Ms.put]
theorem only_12 (m : Ms) (h : m.kd = 12) : m.only = { Ms.zero 12 with st := m.st, nu := m.nu, ky := m.ky } := by
 unfold Ms.only;rw [h, fields_12];simp [List.foldl, Ms.put]
theorem only_13 (m : Ms) (h : m.kd = 13) : m.only = { Ms.zero 13 with g := m.g, st := m.st, nu := m.nu, ky := m.ky, ve := m.ve, vk := m.vk, vb := m.vb, vt := m.vt, er := m.er } := by
 unfold Ms.only;rw [h, fields_13];simp [List.foldl, Ms.put]
theorem only_14 (m : Ms) (h : m.kd = 14) : m.only = { Ms.zero 14 with nu := m.nu } := by
 unfold Ms.only;rw [h, fields_14];simp [List.foldl, Ms.put]
theorem only_15 (m : Ms) (h : m.kd = 15) : m.only = { Ms.zero 15 with sl := m.sl, dt := m.dt, D := m.D, dc := m.dc } := by
 unfold Ms.only;rw [h, fields_15];simp [List.foldl, Ms.put]
theorem fkd_1 (m : Ms) (h : m.kd = 1) : m.formed = m.rformed := by
 rw [Bool.eq_iff_iff];unfold T.Ms.formed T.Ms.fit T.Ms.sound T.Ms.rformed T.Ms.rfirst T.Ms.rsecond;rw [only_1 m h, SameC_comm m.c Cm.zero, SameT_comm m.t Tn.zero];unfold T.Ms.same;simp only [h, fields_1, Tn.formed, T.uB, T.uS, T.uH, T.uC, T.uT, T.uI, T.uG, T.uP, T.uY, T.uN, T.uK, T.uV, T.uD, Ms.zero]
 cases hh : m.ha <;> simp [SameC_refl, SameT_refl, Lib.toList_data] <;> (try simp only [decide_eq_true_eq]) <;> grind
theorem fkd_2 (m : Ms) (h : m.kd = 2) : m.formed = m.rformed := by
 rw [Bool.eq_iff_iff];unfold T.Ms.formed T.Ms.fit T.Ms.sound T.Ms.rformed T.Ms.rfirst T.Ms.rsecond;rw [only_2 m h, SameC_comm m.c Cm.zero, SameT_comm m.t Tn.zero];unfold T.Ms.same;simp only [h, fields_2, Tn.formed, T.uB, T.uS, T.uH, T.uC, T.uT, T.uI, T.uG, T.uP, T.uY, T.uN, T.uK, T.uV, T.uD, Ms.zero]
 cases hh : m.ha <;> simp [SameC_refl, SameT_refl, Lib.toList_data] <;> (try simp only [decide_eq_true_eq]) <;> grind
theorem fkd_3 (m : Ms) (h : m.kd = 3) : m.formed = m.rformed := by
 rw [Bool.eq_iff_iff];unfold T.Ms.formed T.Ms.fit T.Ms.sound T.Ms.rformed T.Ms.rfirst T.Ms.rsecond;rw [only_3 m h, SameC_comm m.c Cm.zero, SameT_comm m.t Tn.zero];unfold T.Ms.same;simp only [h, fields_3, Tn.formed, T.uB, T.uS, T.uH, T.uC, T.uT, T.uI, T.uG, T.uP, T.uY, T.uN, T.uK, T.uV, T.uD, Ms.zero]
 cases hh : m.ha <;> simp [SameC_refl, SameT_refl, Lib.toList_data] <;> (try simp only [decide_eq_true_eq]) <;> grind
theorem fkd_4 (m : Ms) (h : m.kd = 4) : m.formed = m.rformed := by
 rw [Bool.eq_iff_iff];unfold T.Ms.formed T.Ms.fit T.Ms.sound T.Ms.rformed T.Ms.rfirst T.Ms.rsecond;rw [only_4 m h, SameC_comm m.c Cm.zero, SameT_comm m.t Tn.zero];unfold T.Ms.same;simp only [h, fields_4, Tn.formed, T.uB, T.uS, T.uH, T.uC, T.uT, T.uI, T.uG, T.uP, T.uY, T.uN, T.uK, T.uV, T.uD, Ms.zero]
 cases hh : m.ha <;> simp [SameC_refl, SameT_refl, Lib.toList_data] <;> (try simp only [decide_eq_true_eq]) <;> grind
theorem fkd_5 (m : Ms) (h : m.kd = 5) : m.formed = m.rformed := by
 rw [Bool.eq_iff_iff];unfold T.Ms.formed T.Ms.fit T.Ms.sound T.Ms.rformed T.Ms.rfirst T.Ms.rsecond;rw [only_5 m h, SameC_comm m.c Cm.zero, SameT_comm m.t Tn.zero];unfold T.Ms.same;simp only [h, fields_5, Tn.formed, T.uB, T.uS, T.uH, T.uC, T.uT, T.uI, T.uG, T.uP, T.uY, T.uN, T.uK, T.uV, T.uD, Ms.zero]
 cases hh : m.ha <;> simp [SameC_refl, SameT_refl, Lib.toList_data] <;> (try simp only [decide_eq_true_eq]) <;> grind
theorem fkd_6 (m : Ms) (h : m.kd = 6) : m.formed = m.rformed := by
 rw [Bool.eq_iff_iff];unfold T.Ms.formed T.Ms.fit T.Ms.sound T.Ms.rformed T.Ms.rfirst T.Ms.rsecond;rw [only_6 m h, SameC_comm m.c Cm.zero, SameT_comm m.t Tn.zero];unfold T.Ms.same;simp only [h, fields_6, Tn.formed, T.uB, T.uS, T.uH, T.uC, T.uT, T.uI, T.uG, T.uP, T.uY, T.uN, T.uK, T.uV, T.uD, Ms.zero]
 cases hh : m.ha <;> simp [SameC_refl, SameT_refl, Lib.toList_data] <;> (try simp only [decide_eq_true_eq]) <;> grind
theorem fkd_7 (m : Ms) (h : m.kd = 7) : m.formed = m.rformed := by
 rw [Bool.eq_iff_iff];unfold T.Ms.formed T.Ms.fit T.Ms.sound T.Ms.rformed T.Ms.rfirst T.Ms.rsecond;rw [only_7 m h, SameC_comm m.c Cm.zero, SameT_comm m.t Tn.zero];unfold T.Ms.same;simp only [h, fields_7, Tn.formed, T.uB, T.uS, T.uH, T.uC, T.uT, T.uI, T.uG, T.uP, T.uY, T.uN, T.uK, T.uV, T.uD, Ms.zero]
 cases hh : m.ha <;> simp [SameC_refl, SameT_refl, Lib.toList_data] <;> (try simp only [decide_eq_true_eq]) <;> grind
theorem fkd_8 (m : Ms) (h : m.kd = 8) : m.formed = m.rformed := by
 rw [Bool.eq_iff_iff];unfold T.Ms.formed T.Ms.fit T.Ms.sound T.Ms.rformed T.Ms.rfirst T.Ms.rsecond;rw [only_8 m h, SameC_comm m.c Cm.zero, SameT_comm m.t Tn.zero];unfold T.Ms.same;simp only [h, fields_8, Tn.formed, T.uB, T.uS, T.uH, T.uC, T.uT, T.uI, T.uG, T.uP, T.uY, T.uN, T.uK, T.uV, T.uD, Ms.zero]
 cases hh : m.ha <;> simp [SameC_refl, SameT_refl, Lib.toList_data] <;> (try simp only [decide_eq_true_eq]) <;> grind
theorem fkd_9 (m : Ms) (h : m.kd = 9) : m.formed = m.rformed := by
 rw [Bool.eq_iff_iff];unfold T.Ms.formed T.Ms.fit T.Ms.sound T.Ms.rformed T.Ms.rfirst T.Ms.rsecond;rw [only_9 m h, SameC_comm m.c Cm.zero, SameT_comm m.t Tn.zero];unfold T.Ms.same;simp only [h, fields_9, Tn.formed, T.uB, T.uS, T.uH, T.uC, T.uT, T.uI, T.uG, T.uP, T.uY, T.uN, T.uK, T.uV, T.uD, Ms.zero]
 cases hh : m.ha <;> simp [SameC_refl, SameT_refl, Lib.toList_data] <;> (try simp only [decide_eq_true_eq]) <;> grind
theorem fkd_10 (m : Ms) (h : m.kd = 10) : m.formed = m.rformed := by
 rw [Bool.eq_iff_iff];unfold T.Ms.formed T.Ms.fit T.Ms.sound T.Ms.rformed T.Ms.rfirst T.Ms.rsecond;rw [only_10 m h, SameC_comm m.c Cm.zero, SameT_comm m.t Tn.zero];unfold T.Ms.same;simp only [h, fields_10, Tn.formed, T.uB, T.uS, T.uH, T.uC, T.uT, T.uI, T.uG, T.uP, T.uY, T.uN, T.uK, T.uV, T.uD, Ms.zero]
 cases hh : m.ha <;> simp [SameC_refl, SameT_refl, Lib.toList_data] <;> (try simp only [decide_eq_true_eq]) <;> grind
theorem fkd_11 (m : Ms) (h : m.kd = 11) : m.formed = m.rformed := by
 rw [Bool.eq_iff_iff];unfold T.Ms.formed T.Ms.fit T.Ms.sound T.Ms.rformed T.Ms.rfirst T.Ms.rsecond;rw [only_11 m h, SameC_comm m.c Cm.zero, SameT_comm m.t Tn.zero];unfold T.Ms.same;simp only [h, fields_11, Tn.formed, T.uB, T.uS, T.uH, T.uC, T.uT, T.uI, T.uG, T.uP, T.uY, T.uN, T.uK, T.uV, T.uD, Ms.zero]
 cases hh : m.ha <;> simp [SameC_refl, SameT_refl, Lib.toList_data] <;> (try simp only [decide_eq_true_eq]) <;> grind
theorem fkd_12 (m : Ms) (h : m.kd = 12) : m.formed = m.rformed := by
 rw [Bool.eq_iff_iff];unfold T.Ms.formed T.Ms.fit T.Ms.sound T.Ms.rformed T.Ms.rfirst T.Ms.rsecond;rw [only_12 m h, SameC_comm m.c Cm.zero, SameT_comm m.t Tn.zero];unfold T.Ms.same;simp only [h, fields_12, Tn.formed, T.uB, T.uS, T.uH, T.uC, T.uT, T.uI, T.uG, T.uP, T.uY, T.uN, T.uK, T.uV, T.uD, Ms.zero]
 cases hh : m.ha <;> simp [SameC_refl, SameT_refl, Lib.toList_data] <;> (try simp only [decide_eq_true_eq]) <;> grind
theorem fkd_13 (m : Ms) (h : m.kd = 13) : m.formed = m.rformed := by
 rw [Bool.eq_iff_iff];unfold T.Ms.formed T.Ms.fit T.Ms.sound T.Ms.rformed T.Ms.rfirst T.Ms.rsecond;rw [only_13 m h, SameC_comm m.c Cm.zero, SameT_comm m.t Tn.zero];unfold T.Ms.same;simp only [h, fields_13, Tn.formed, T.uB, T.uS, T.uH, T.uC, T.uT, T.uI, T.uG, T.uP, T.uY, T.uN, T.uK, T.uV, T.uD, Ms.zero]
 cases hh : m.ha <;> simp [SameC_refl, SameT_refl, Lib.toList_data] <;> (try simp only [decide_eq_true_eq]) <;> grind
theorem fkd_14 (m : Ms) (h : m.kd = 14) : m.formed = m.rformed := by
 rw [Bool.eq_iff_iff];unfold T.Ms.formed T.Ms.fit T.Ms.sound T.Ms.rformed T.Ms.rfirst T.Ms.rsecond;rw [only_14 m h, SameC_comm m.c Cm.zero, SameT_comm m.t Tn.zero];unfold T.Ms.same;simp only [h, fields_14, Tn.formed, T.uB, T.uS, T.uH, T.uC, T.uT, T.uI, T.uG, T.uP, T.uY, T.uN, T.uK, T.uV, T.uD, Ms.zero]
 cases hh : m.ha <;> simp [SameC_refl, SameT_refl, Lib.toList_data] <;> (try simp only [decide_eq_true_eq]) <;> grind
theorem fkd_15 (m : Ms) (h : m.kd = 15) : m.formed = m.rformed := by
 rw [Bool.eq_iff_iff];unfold T.Ms.formed T.Ms.fit T.Ms.sound T.Ms.rformed T.Ms.rfirst T.Ms.rsecond;rw [only_15 m h, SameC_comm m.c Cm.zero, SameT_comm m.t Tn.zero];unfold T.Ms.same;simp only [h, fields_15, Tn.formed, T.uB, T.uS, T.uH, T.uC, T.uT, T.uI, T.uG, T.uP, T.uY, T.uN, T.uK, T.uV, T.uD, Ms.zero]
 cases hh : m.ha <;> simp [SameC_refl, SameT_refl, Lib.toList_data] <;> (try simp only [decide_eq_true_eq]) <;> grind
theorem formed_eq (m : Ms) : m.formed = m.rformed := by
 by_cases k1 : m.kd = 1
 ·exact fkd_1 m k1
 by_cases k2 : m.kd = 2
 ·exact fkd_2 m k2
 by_cases k3 : m.kd = 3
 ·exact fkd_3 m k3
 by_cases k4 : m.kd = 4
 ·exact fkd_4 m k4
 by_cases k5 : m.kd = 5
 ·exact fkd_5 m k5
 by_cases k6 : m.kd = 6
 ·exact fkd_6 m k6
 by_cases k7 : m.kd = 7
 ·exact fkd_7 m k7
 by_cases k8 : m.kd = 8
 ·exact fkd_8 m k8
 by_cases k9 : m.kd = 9
 ·exact fkd_9 m k9
 by_cases k10 : m.kd = 10
 ·exact fkd_10 m k10
 by_cases k11 : m.kd = 11
 ·exact fkd_11 m k11
 by_cases k12 : m.kd = 12
 ·exact fkd_12 m k12
 by_cases k13 : m.kd = 13
 ·exact fkd_13 m k13
 by_cases k14 : m.kd = 14
 ·exact fkd_14 m k14
 by_cases k15 : m.kd = 15
 ·exact fkd_15 m k15
 (have hf : fieldsOf m.kd = [] := by unfold fieldsOf; simp only [k1, k2, k3, k4, k5, k6, k7, k8, k9, k10, k11, k12, k13, k14, k15, if_false, or_self]);(have h1 : m.formed = false := by unfold T.Ms.formed T.Ms.fit; rw [hf]; simp)
 have h2 : m.rformed = false := by
  unfold T.Ms.rformed
  by_cases q : m.kd < 1
  ·simp [q]
  ·(have : m.kd > 15 := by omega);simp [this]
 rw [h1, h2]
end Go.Proofs.YthclniimhpmeoaaGreatDoor
