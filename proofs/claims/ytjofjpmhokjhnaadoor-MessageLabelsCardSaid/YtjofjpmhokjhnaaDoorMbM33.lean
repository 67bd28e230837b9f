/- message.Read. Conditions: what lies, lies below. (Printed by gen_msg.py.) -/
import Derived.Test.YtjofjpmhokjhnaaDoorMbM32
import Derived.Test.YtjofjpmhokjhnaaDoorMbM28
namespace Go.Proofs.YtjofjpmhokjhnaaDoor
set_option maxRecDepth 20000
open Go.RowKit T
set_option linter.unusedSimpArgs false
set_option linter.unusedVariables false

theorem SameC_refl (x : Cm) : SameC x x = true := by unfold SameC; simp
theorem SameT_refl (x : Tn) : SameT x x = true := by unfold SameT; simp
theorem SameC_comm (x y : Cm) : SameC x y = SameC y x := by
 unfold SameC; rw [decide_eq_decide]
 constructor <;> (rintro ⟨h1, ⟨h2, h3⟩, h4, h5, h6, h7, h8, h9, h10⟩; exact ⟨h1.symm, ⟨h2.symm, h3.symm⟩, h4.symm, h5.symm, h6.symm, h7.symm, h8.symm, h9.symm, h10.symm⟩)
theorem SameT_comm (x y : Tn) : SameT x y = SameT y x := by
 unfold SameT; rw [decide_eq_decide]
 constructor <;> (rintro ⟨h1, h2, h3, h4⟩; exact ⟨h1.symm, h2.symm, h3.symm, h4.symm⟩)
theorem fields_1 : fieldsOf 1 = [66] := by decide
theorem fields_2 : fieldsOf 2 = [66, 83, 72] := by decide
theorem fields_3 : fieldsOf 3 = [66] := by decide
theorem fields_4 : fieldsOf 4 = [66, 83, 67] := by decide
theorem fields_5 : fieldsOf 5 = [66, 83] := by decide
theorem fields_6 : fieldsOf 6 = [83, 67] := by decide
theorem fields_7 : fieldsOf 7 = [83] := by decide
theorem fields_8 : fieldsOf 8 = [84] := by decide
theorem fields_9 : fieldsOf 9 = [73, 71, 80] := by decide
theorem fields_10 : fieldsOf 10 = [73, 71, 89] := by decide
theorem fields_11 : fieldsOf 11 = [73, 71, 80, 89] := by decide
theorem fields_12 : fieldsOf 12 = [80, 78, 75] := by decide
theorem fields_13 : fieldsOf 13 = [71, 80, 78, 75, 86, 88, 69] := by decide
theorem fields_14 : fieldsOf 14 = [78] := by decide
theorem fields_15 : fieldsOf 15 = [83, 68] := by decide
theorem only_1 (m : Ms) (h : m.kd = 1) : m.only = { Ms.zero 1 with br := m.br, bn := m.bn } := by
 unfold Ms.only
 rw [h, fields_1]
 simp [List.foldl, Ms.put]
theorem only_2 (m : Ms) (h : m.kd = 2) : m.only = (if m.ha then { Ms.zero 2 with br := m.br, bn := m.bn, sl := m.sl, ha := true, vr := m.vr, vn := m.vn, c := m.c } else { Ms.zero 2 with br := m.br, bn := m.bn, sl := m.sl }) := by
 unfold Ms.only
 rw [h, fields_2]
 cases hb : m.ha <;> simp [List.foldl, Ms.put, hb, Ms.zero]
theorem only_3 (m : Ms) (h : m.kd = 3) : m.only = { Ms.zero 3 with br := m.br, bn := m.bn } := by
 unfold Ms.only
 rw [h, fields_3]
 simp [List.foldl, Ms.put]
theorem only_4 (m : Ms) (h : m.kd = 4) : m.only = { Ms.zero 4 with br := m.br, bn := m.bn, sl := m.sl, c := m.c } := by
 unfold Ms.only
 rw [h, fields_4]
 simp [List.foldl, Ms.put]
theorem only_5 (m : Ms) (h : m.kd = 5) : m.only = { Ms.zero 5 with br := m.br, bn := m.bn, sl := m.sl } := by
 unfold Ms.only
 rw [h, fields_5]
 simp [List.foldl, Ms.put]
theorem only_6 (m : Ms) (h : m.kd = 6) : m.only = { Ms.zero 6 with sl := m.sl, c := m.c } := by
 unfold Ms.only
 rw [h, fields_6]
 simp [List.foldl, Ms.put]
theorem only_7 (m : Ms) (h : m.kd = 7) : m.only = { Ms.zero 7 with sl := m.sl } := by
 unfold Ms.only
 rw [h, fields_7]
 simp [List.foldl, Ms.put]
theorem only_8 (m : Ms) (h : m.kd = 8) : m.only = { Ms.zero 8 with t := m.t } := by
 unfold Ms.only
 rw [h, fields_8]
 simp [List.foldl, Ms.put]
theorem only_9 (m : Ms) (h : m.kd = 9) : m.only = { Ms.zero 9 with ii := m.ii, ij := m.ij, g := m.g, st := m.st } := by
 unfold Ms.only
 rw [h, fields_9]
 simp [List.foldl, Ms.put]
theorem only_10 (m : Ms) (h : m.kd = 10) : m.only = { Ms.zero 10 with ii := m.ii, ij := m.ij, g := m.g, ye := m.ye } := by
 unfold Ms.only
 rw [h, fields_10]
 simp [List.foldl, Ms.put]
theorem only_11 (m : Ms) (h : m.kd = 11) : m.only = { Ms.zero 11 with ii := m.ii, ij := m.ij, g := m.g, st := m.st, ye := m.ye } := by
 unfold Ms.only
 rw [h, fields_11]
 simp [List.foldl, Ms.put]
theorem only_12 (m : Ms) (h : m.kd = 12) : m.only = { Ms.zero 12 with st := m.st, nu := m.nu, ky := m.ky } := by
 unfold Ms.only
 rw [h, fields_12]
 simp [List.foldl, Ms.put]
theorem only_13 (m : Ms) (h : m.kd = 13) : m.only = { Ms.zero 13 with g := m.g, st := m.st, nu := m.nu, ky := m.ky, ve := m.ve, vk := m.vk, vb := m.vb, vt := m.vt, er := m.er } := by
 unfold Ms.only
 rw [h, fields_13]
 simp [List.foldl, Ms.put]
theorem only_14 (m : Ms) (h : m.kd = 14) : m.only = { Ms.zero 14 with nu := m.nu } := by
 unfold Ms.only
 rw [h, fields_14]
 simp [List.foldl, Ms.put]
theorem only_15 (m : Ms) (h : m.kd = 15) : m.only = { Ms.zero 15 with sl := m.sl, dt := m.dt, D := m.D, dc := m.dc } := by
 unfold Ms.only
 rw [h, fields_15]
 simp [List.foldl, Ms.put]
set_option maxHeartbeats 4000000
theorem fkd_1 (m : Ms) (h : m.kd = 1) : m.formed = m.rformed := by
 rw [Bool.eq_iff_iff]
 unfold T.Ms.formed T.Ms.fit T.Ms.sound T.Ms.rformed T.Ms.rfirst T.Ms.rsecond
 rw [only_1 m h, SameC_comm m.c Cm.zero, SameT_comm m.t Tn.zero]
 unfold T.Ms.same
 simp only [h, fields_1, Tn.formed, T.uB, T.uS, T.uH, T.uC, T.uT, T.uI, T.uG, T.uP, T.uY, T.uN, T.uK, T.uV, T.uD, Ms.zero]
 cases hh : m.ha <;> simp [SameC_refl, SameT_refl, Lib.toList_data] <;> (try simp only [decide_eq_true_eq]) <;> grind
theorem fkd_2 (m : Ms) (h : m.kd = 2) : m.formed = m.rformed := by
 rw [Bool.eq_iff_iff]
 unfold T.Ms.formed T.Ms.fit T.Ms.sound T.Ms.rformed T.Ms.rfirst T.Ms.rsecond
 rw [only_2 m h, SameC_comm m.c Cm.zero, SameT_comm m.t Tn.zero]
 unfold T.Ms.same
 simp only [h, fields_2, Tn.formed, T.uB, T.uS, T.uH, T.uC, T.uT, T.uI, T.uG, T.uP, T.uY, T.uN, T.uK, T.uV, T.uD, Ms.zero]
 cases hh : m.ha <;> simp [SameC_refl, SameT_refl, Lib.toList_data] <;> (try simp only [decide_eq_true_eq]) <;> grind
theorem fkd_3 (m : Ms) (h : m.kd = 3) : m.formed = m.rformed := by
 rw [Bool.eq_iff_iff]
 unfold T.Ms.formed T.Ms.fit T.Ms.sound T.Ms.rformed T.Ms.rfirst T.Ms.rsecond
 rw [only_3 m h, SameC_comm m.c Cm.zero, SameT_comm m.t Tn.zero]
 unfold T.Ms.same
 simp only [h, fields_3, Tn.formed, T.uB, T.uS, T.uH, T.uC, T.uT, T.uI, T.uG, T.uP, T.uY, T.uN, T.uK, T.uV, T.uD, Ms.zero]
 cases hh : m.ha <;> simp [SameC_refl, SameT_refl, Lib.toList_data] <;> (try simp only [decide_eq_true_eq]) <;> grind
theorem fkd_4 (m : Ms) (h : m.kd = 4) : m.formed = m.rformed := by
 rw [Bool.eq_iff_iff]
 unfold T.Ms.formed T.Ms.fit T.Ms.sound T.Ms.rformed T.Ms.rfirst T.Ms.rsecond
 rw [only_4 m h, SameC_comm m.c Cm.zero, SameT_comm m.t Tn.zero]
 unfold T.Ms.same
 simp only [h, fields_4, Tn.formed, T.uB, T.uS, T.uH, T.uC, T.uT, T.uI, T.uG, T.uP, T.uY, T.uN, T.uK, T.uV, T.uD, Ms.zero]
 cases hh : m.ha <;> simp [SameC_refl, SameT_refl, Lib.toList_data] <;> (try simp only [decide_eq_true_eq]) <;> grind
theorem fkd_5 (m : Ms) (h : m.kd = 5) : m.formed = m.rformed := by
 rw [Bool.eq_iff_iff]
 unfold T.Ms.formed T.Ms.fit T.Ms.sound T.Ms.rformed T.Ms.rfirst T.Ms.rsecond
 rw [only_5 m h, SameC_comm m.c Cm.zero, SameT_comm m.t Tn.zero]
 unfold T.Ms.same
 simp only [h, fields_5, Tn.formed, T.uB, T.uS, T.uH, T.uC, T.uT, T.uI, T.uG, T.uP, T.uY, T.uN, T.uK, T.uV, T.uD, Ms.zero]
 cases hh : m.ha <;> simp [SameC_refl, SameT_refl, Lib.toList_data] <;> (try simp only [decide_eq_true_eq]) <;> grind
theorem fkd_6 (m : Ms) (h : m.kd = 6) : m.formed = m.rformed := by
 rw [Bool.eq_iff_iff]
 unfold T.Ms.formed T.Ms.fit T.Ms.sound T.Ms.rformed T.Ms.rfirst T.Ms.rsecond
 rw [only_6 m h, SameC_comm m.c Cm.zero, SameT_comm m.t Tn.zero]
 unfold T.Ms.same
 simp only [h, fields_6, Tn.formed, T.uB, T.uS, T.uH, T.uC, T.uT, T.uI, T.uG, T.uP, T.uY, T.uN, T.uK, T.uV, T.uD, Ms.zero]
 cases hh : m.ha <;> simp [SameC_refl, SameT_refl, Lib.toList_data] <;> (try simp only [decide_eq_true_eq]) <;> grind
theorem fkd_7 (m : Ms) (h : m.kd = 7) : m.formed = m.rformed := by
 rw [Bool.eq_iff_iff]
 unfold T.Ms.formed T.Ms.fit T.Ms.sound T.Ms.rformed T.Ms.rfirst T.Ms.rsecond
 rw [only_7 m h, SameC_comm m.c Cm.zero, SameT_comm m.t Tn.zero]
 unfold T.Ms.same
 simp only [h, fields_7, Tn.formed, T.uB, T.uS, T.uH, T.uC, T.uT, T.uI, T.uG, T.uP, T.uY, T.uN, T.uK, T.uV, T.uD, Ms.zero]
 cases hh : m.ha <;> simp [SameC_refl, SameT_refl, Lib.toList_data] <;> (try simp only [decide_eq_true_eq]) <;> grind
theorem fkd_8 (m : Ms) (h : m.kd = 8) : m.formed = m.rformed := by
 rw [Bool.eq_iff_iff]
 unfold T.Ms.formed T.Ms.fit T.Ms.sound T.Ms.rformed T.Ms.rfirst T.Ms.rsecond
 rw [only_8 m h, SameC_comm m.c Cm.zero, SameT_comm m.t Tn.zero]
 unfold T.Ms.same
 simp only [h, fields_8, Tn.formed, T.uB, T.uS, T.uH, T.uC, T.uT, T.uI, T.uG, T.uP, T.uY, T.uN, T.uK, T.uV, T.uD, Ms.zero]
 cases hh : m.ha <;> simp [SameC_refl, SameT_refl, Lib.toList_data] <;> (try simp only [decide_eq_true_eq]) <;> grind
theorem fkd_9 (m : Ms) (h : m.kd = 9) : m.formed = m.rformed := by
 rw [Bool.eq_iff_iff]
 unfold T.Ms.formed T.Ms.fit T.Ms.sound T.Ms.rformed T.Ms.rfirst T.Ms.rsecond
 rw [only_9 m h, SameC_comm m.c Cm.zero, SameT_comm m.t Tn.zero]
 unfold T.Ms.same
 simp only [h, fields_9, Tn.formed, T.uB, T.uS, T.uH, T.uC, T.uT, T.uI, T.uG, T.uP, T.uY, T.uN, T.uK, T.uV, T.uD, Ms.zero]
 cases hh : m.ha <;> simp [SameC_refl, SameT_refl, Lib.toList_data] <;> (try simp only [decide_eq_true_eq]) <;> grind
theorem fkd_10 (m : Ms) (h : m.kd = 10) : m.formed = m.rformed := by
 rw [Bool.eq_iff_iff]
 unfold T.Ms.formed T.Ms.fit T.Ms.sound T.Ms.rformed T.Ms.rfirst T.Ms.rsecond
 rw [only_10 m h, SameC_comm m.c Cm.zero, SameT_comm m.t Tn.zero]
 unfold T.Ms.same
 simp only [h, fields_10, Tn.formed, T.uB, T.uS, T.uH, T.uC, T.uT, T.uI, T.uG, T.uP, T.uY, T.uN, T.uK, T.uV, T.uD, Ms.zero]
 cases hh : m.ha <;> simp [SameC_refl, SameT_refl, Lib.toList_data] <;> (try simp only [decide_eq_true_eq]) <;> grind
theorem fkd_11 (m : Ms) (h : m.kd = 11) : m.formed = m.rformed := by
 rw [Bool.eq_iff_iff]
 unfold T.Ms.formed T.Ms.fit T.Ms.sound T.Ms.rformed T.Ms.rfirst T.Ms.rsecond
 rw [only_11 m h, SameC_comm m.c Cm.zero, SameT_comm m.t Tn.zero]
 unfold T.Ms.same
 simp only [h, fields_11, Tn.formed, T.uB, T.uS, T.uH, T.uC, T.uT, T.uI, T.uG, T.uP, T.uY, T.uN, T.uK, T.uV, T.uD, Ms.zero]
 cases hh : m.ha <;> simp [SameC_refl, SameT_refl, Lib.toList_data] <;> (try simp only [decide_eq_true_eq]) <;> grind
theorem fkd_12 (m : Ms) (h : m.kd = 12) : m.formed = m.rformed := by
 rw [Bool.eq_iff_iff]
 unfold T.Ms.formed T.Ms.fit T.Ms.sound T.Ms.rformed T.Ms.rfirst T.Ms.rsecond
 rw [only_12 m h, SameC_comm m.c Cm.zero, SameT_comm m.t Tn.zero]
 unfold T.Ms.same
 simp only [h, fields_12, Tn.formed, T.uB, T.uS, T.uH, T.uC, T.uT, T.uI, T.uG, T.uP, T.uY, T.uN, T.uK, T.uV, T.uD, Ms.zero]
 cases hh : m.ha <;> simp [SameC_refl, SameT_refl, Lib.toList_data] <;> (try simp only [decide_eq_true_eq]) <;> grind
theorem fkd_13 (m : Ms) (h : m.kd = 13) : m.formed = m.rformed := by
 rw [Bool.eq_iff_iff]
 unfold T.Ms.formed T.Ms.fit T.Ms.sound T.Ms.rformed T.Ms.rfirst T.Ms.rsecond
 rw [only_13 m h, SameC_comm m.c Cm.zero, SameT_comm m.t Tn.zero]
 unfold T.Ms.same
 simp only [h, fields_13, Tn.formed, T.uB, T.uS, T.uH, T.uC, T.uT, T.uI, T.uG, T.uP, T.uY, T.uN, T.uK, T.uV, T.uD, Ms.zero]
 cases hh : m.ha <;> simp [SameC_refl, SameT_refl, Lib.toList_data] <;> (try simp only [decide_eq_true_eq]) <;> grind
theorem fkd_14 (m : Ms) (h : m.kd = 14) : m.formed = m.rformed := by
 rw [Bool.eq_iff_iff]
 unfold T.Ms.formed T.Ms.fit T.Ms.sound T.Ms.rformed T.Ms.rfirst T.Ms.rsecond
 rw [only_14 m h, SameC_comm m.c Cm.zero, SameT_comm m.t Tn.zero]
 unfold T.Ms.same
 simp only [h, fields_14, Tn.formed, T.uB, T.uS, T.uH, T.uC, T.uT, T.uI, T.uG, T.uP, T.uY, T.uN, T.uK, T.uV, T.uD, Ms.zero]
 cases hh : m.ha <;> simp [SameC_refl, SameT_refl, Lib.toList_data] <;> (try simp only [decide_eq_true_eq]) <;> grind
theorem fkd_15 (m : Ms) (h : m.kd = 15) : m.formed = m.rformed := by
 rw [Bool.eq_iff_iff]
 unfold T.Ms.formed T.Ms.fit T.Ms.sound T.Ms.rformed T.Ms.rfirst T.Ms.rsecond
 rw [only_15 m h, SameC_comm m.c Cm.zero, SameT_comm m.t Tn.zero]
 unfold T.Ms.same
 simp only [h, fields_15, Tn.formed, T.uB, T.uS, T.uH, T.uC, T.uT, T.uI, T.uG, T.uP, T.uY, T.uN, T.uK, T.uV, T.uD, Ms.zero]
 cases hh : m.ha <;> simp [SameC_refl, SameT_refl, Lib.toList_data] <;> (try simp only [decide_eq_true_eq]) <;> grind
/-- what both sides call formed is the same -/
theorem formed_eq (m : Ms) : m.formed = m.rformed := by
 by_cases k1 : m.kd = 1
 ·exact fkd_1 m k1
 by_cases k2 : m.kd = 2
 ·exact fkd_2 m k2
 by_cases k3 : m.kd = 3
 ·exact fkd_3 m k3
 by_cases k4 : m.kd = 4
 ·exact fkd_4 m k4
 by_cases k5 : m.kd = 5
 ·exact fkd_5 m k5
 by_cases k6 : m.kd = 6
 ·exact fkd_6 m k6
 by_cases k7 : m.kd = 7
 ·exact fkd_7 m k7
 by_cases k8 : m.kd = 8
 ·exact fkd_8 m k8
 by_cases k9 : m.kd = 9
 ·exact fkd_9 m k9
 by_cases k10 : m.kd = 10
 ·exact fkd_10 m k10
 by_cases k11 : m.kd = 11
 ·exact fkd_11 m k11
 by_cases k12 : m.kd = 12
 ·exact fkd_12 m k12
 by_cases k13 : m.kd = 13
 ·exact fkd_13 m k13
 by_cases k14 : m.kd = 14
 ·exact fkd_14 m k14
 by_cases k15 : m.kd = 15
 ·exact fkd_15 m k15
 have hf : fieldsOf m.kd = [] := by unfold fieldsOf; simp only [k1, k2, k3, k4, k5, k6, k7, k8, k9, k10, k11, k12, k13, k14, k15, if_false, or_self]
 have h1 : m.formed = false := by unfold T.Ms.formed T.Ms.fit; rw [hf]; simp
 have h2 : m.rformed = false := by
  unfold T.Ms.rformed
  by_cases q : m.kd < 1
  ·simp [q]
  ·have : m.kd > 15 := by omega
   simp [this]
 rw [h1, h2]
end Go.Proofs.YtjofjpmhokjhnaaDoor

namespace Go.Proofs.YtjofjpmhokjhnaaDoor
set_option maxRecDepth 20001
open Go.RowKit T
set_option linter.unusedSimpArgs false
set_option linter.unusedVariables false

theorem mtk_B (p : Ms × C.St) : mtk p 66 = ({ p.1 with br := (B.take p.2).1.1, bn := ((B.take p.2).1.2 : Int) }, (B.take p.2).2) := rfl
theorem mtk_S (p : Ms × C.St) : mtk p 83 = ({ p.1 with sl := ((C.take 4 p.2).1 : Int) }, (C.take 4 p.2).2) := rfl
theorem mtk_H1 (p : Ms × C.St) (h : (C.take 1 p.2).1 = 1) : mtk p 72 = ({ p.1 with ha := true, vr := (B.take (C.take 1 p.2).2).1.1, vn := ((B.take (C.take 1 p.2).2).1.2 : Int), c := (ctake (B.take (C.take 1 p.2).2).2).1 }, (ctake (B.take (C.take 1 p.2).2).2).2) := by
 show (if (C.take 1 p.2).1 = 1 then _ else _) = _
 rw [if_pos h]
theorem mtk_H0 (p : Ms × C.St) (h : ¬ (C.take 1 p.2).1 = 1) : mtk p 72 = ({ p.1 with ha := false }, (C.take 1 p.2).2) := by
 show (if (C.take 1 p.2).1 = 1 then _ else _) = _
 rw [if_neg h]
theorem mtk_C (p : Ms × C.St) : mtk p 67 = ({ p.1 with c := (ctake p.2).1 }, (ctake p.2).2) := rfl
theorem mtk_T (p : Ms × C.St) : mtk p 84 = ({ p.1 with t := { p.1.t with s := ((ttake p.2).1.1.1 : Int), q := ((ttake p.2).1.1.2 : Int), rs := (ttake p.2).1.2.1, ws := (ttake p.2).1.2.2 } }, (ttake p.2).2) := rfl
theorem mtk_I (p : Ms × C.St) : mtk p 73 = ({ p.1 with ii := ((idtake p.2).1.1 : Int), ij := ((idtake p.2).1.2 : Int) }, (idtake p.2).2) := rfl
theorem mtk_G (p : Ms × C.St) : mtk p 71 = ({ p.1 with g := ((C.take 1 p.2).1 : Int) }, (C.take 1 p.2).2) := rfl
theorem mtk_P (p : Ms × C.St) : mtk p 80 = ({ p.1 with st := (C.take 8 p.2).1 }, (C.take 8 p.2).2) := rfl
theorem mtk_Y (p : Ms × C.St) : mtk p 89 = ({ p.1 with ye := decide ((C.take 1 p.2).1 = 1) }, (C.take 1 p.2).2) := rfl
theorem mtk_N (p : Ms × C.St) : mtk p 78 = ({ p.1 with nu := ((C.take 4 p.2).1 : Int) }, (C.take 4 p.2).2) := rfl
theorem mtk_K (p : Ms × C.St) : mtk p 75 = ({ p.1 with ky := ⟨(C.text 12 p.2).1.toArray⟩ }, (C.text 12 p.2).2) := rfl
theorem mtk_V (p : Ms × C.St) : mtk p 86 = ({ p.1 with ve := (C.take 8 p.2).1 }, (C.take 8 p.2).2) := rfl
theorem mtk_X (p : Ms × C.St) : mtk p 88 = ({ p.1 with vk := ((V.take p.2).1.1 : Int), vb := (V.take p.2).1.2.1, vt := ⟨(V.take p.2).1.2.2.toArray⟩ }, (V.take p.2).2) := rfl
theorem mtk_E (p : Ms × C.St) : mtk p 69 = ({ p.1 with er := ((C.take 1 p.2).1 : Int) }, (C.take 1 p.2).2) := rfl
theorem mtk_D (p : Ms × C.St) : mtk p 68 = ({ p.1 with dt := p.1.dt ++ (dtake p.2).1 }, (dtake p.2).2) := rfl
theorem mtk_none (p : Ms × C.St) (c : Nat) (hB : c ≠ 66) (hS : c ≠ 83) (hH : c ≠ 72) (hC : c ≠ 67) (hT : c ≠ 84) (hI : c ≠ 73) (hG : c ≠ 71) (hP : c ≠ 80) (hY : c ≠ 89) (hN : c ≠ 78) (hK : c ≠ 75) (hV : c ≠ 86) (hX : c ≠ 88) (hE : c ≠ 69) (hD : c ≠ 68) : mtk p c = p := by
 unfold mtk
 rw [if_neg hB, if_neg hS, if_neg hH, if_neg hC, if_neg hT, if_neg hI, if_neg hG, if_neg hP, if_neg hY, if_neg hN, if_neg hK, if_neg hV, if_neg hX, if_neg hE, if_neg hD]
theorem fld_mem (k : Int) : (∀ x ∈ fieldsOf k, x = 68 → k = 15) ∧ (k = 15 → ∀ x ∈ fieldsOf k, x = 83 ∨ x = 68) := by
 by_cases k1 : k = 1
 ·subst k1; decide
 by_cases k2 : k = 2
 ·subst k2; decide
 by_cases k3 : k = 3
 ·subst k3; decide
 by_cases k4 : k = 4
 ·subst k4; decide
 by_cases k5 : k = 5
 ·subst k5; decide
 by_cases k6 : k = 6
 ·subst k6; decide
 by_cases k7 : k = 7
 ·subst k7; decide
 by_cases k8 : k = 8
 ·subst k8; decide
 by_cases k9 : k = 9
 ·subst k9; decide
 by_cases k10 : k = 10
 ·subst k10; decide
 by_cases k11 : k = 11
 ·subst k11; decide
 by_cases k12 : k = 12
 ·subst k12; decide
 by_cases k13 : k = 13
 ·subst k13; decide
 by_cases k14 : k = 14
 ·subst k14; decide
 by_cases k15 : k = 15
 ·subst k15; decide
 rw [show fieldsOf k = [] from by unfold fieldsOf; simp only [k1, k2, k3, k4, k5, k6, k7, k8, k9, k10, k11, k12, k13, k14, k15, if_false, or_self]]
 exact ⟨fun x hx => (by cases hx), fun _ x hx => (by cases hx)⟩
theorem fld68 (k : Int) (i : Nat) (h : i < (fieldsOf k).length) (e : ((fieldsOf k)[i]'h).toNat = 68) : k = 15 ∧ i = 1 := by
 have hk := (fld_mem k).1 _ (List.getElem_mem h) (UInt8.toNat_inj.1 e)
 refine ⟨hk, ?_⟩
 subst hk
 have hl : (fieldsOf 15).length = 2 := by decide
 have h0 : ((fieldsOf 15)[0]'(by decide)).toNat = 83 := by decide
 rcases Nat.eq_zero_or_pos i with e0 | e0
 ·subst e0; exact absurd (h0.symm.trans e) (by decide)
 ·omega
theorem fld15 (k : Int) (hk : k = 15) (i : Nat) (h : i < (fieldsOf k).length) : ((fieldsOf k)[i]'h).toNat = 83 ∨ ((fieldsOf k)[i]'h).toNat = 68 := by
 rcases (fld_mem k).2 hk _ (List.getElem_mem h) with e | e
 ·rw [e]; exact Or.inl rfl
 ·rw [e]; exact Or.inr rfl
theorem t1 (s : C.St) : (C.take 1 s).1 < 256 := take_lt 1 s (by omega)
theorem t4 (s : C.St) : (C.take 4 s).1 < 4294967296 := take_lt 4 s (by omega)
theorem t8 (s : C.St) : (C.take 8 s).1 < 18446744073709551616 := take_lt 8 s (by omega)
theorem w1 (s : C.St) : IntKind.i64.wrap ((C.take 1 s).1 : Int) = ((C.take 1 s).1 : Int) := wrapI (by have := t1 s; omega)
theorem w1k (l : List UInt8) : IntKind.i64.wrap ((C.take 1 (l, false)).1 : Int) = rk l := w1 (l, false)
theorem w4 (s : C.St) : IntKind.i64.wrap ((C.take 4 s).1 : Int) = ((C.take 4 s).1 : Int) := wrapI (by have := t4 s; omega)
theorem CtK.newC {w0 z : World} {g a b d : Nat} {m : Ms} {y : Cm} (h : CtK z g a b d m) (f : ∀ z' : World, (∀ i, w0.heap.size ≤ i → i < z.heap.size → z'.heap[i]? = z.heap[i]?) → CmOk z' z'.heap.size y) (l1 : g < w0.heap.size) (l2 : a < w0.heap.size) (l3 : b < w0.heap.size) (l4 : d < w0.heap.size) : CtK z g a b d { m with c := y } :=
 fun z' h' => ⟨f z' fun i h1 h2 => h' i h2 (by omega) (by omega) (by omega) (by omega), (h z' h').2⟩
theorem CtK.newT {w0 z : World} {g a b d : Nat} {m : Ms} {y : Tn} (h : CtK z g a b d m) (f : ∀ z' : World, (∀ i, w0.heap.size ≤ i → i < z.heap.size → z'.heap[i]? = z.heap[i]?) → TxOk z' z'.heap.size y.rs y.ws y.A1 y.c1 y.A2 y.c2) (l1 : g < w0.heap.size) (l2 : a < w0.heap.size) (l3 : b < w0.heap.size) (l4 : d < w0.heap.size) : CtK z g a b d { m with t := y } :=
 fun z' h' => ⟨(h z' h').1, f z' fun i h1 h2 => h' i h2 (by omega) (by omega) (by omega) (by omega)⟩
theorem ttake_t (B g : Nat) (w : World) (s : C.St) (h : RdrAt w B g s) (hT : TabsAt B w) :
  Calls Tryd.prog 91 #[.pointer (some ⟨g, 0, none⟩)] w fun e w' => (∃ y : Tn, e = .returned (.agg y.cells.toArray) ∧ (y.s = ((ttake s).1.1.1 : Int) ∧ y.q = ((ttake s).1.1.2 : Int) ∧ y.rs = (ttake s).1.2.1 ∧ y.ws = (ttake s).1.2.2) ∧ ∀ z : World, (∀ i, w.heap.size ≤ i → i < w'.heap.size → z.heap[i]? = w'.heap[i]?) → TxOk z z.heap.size y.rs y.ws y.A1 y.c1 y.A2 y.c2) ∧ RdrAt w' B g (ttake s).2 ∧ w.grownBy w' (some g) :=
 (ttake_any B g w s h hT).mono fun e w' ⟨⟨A1, c1, A2, c2, h1, h2⟩, h3, h4⟩ => ⟨⟨⟨_, _, _, _, A1, c1, A2, c2⟩, h1, ⟨rfl, rfl, rfl, rfl⟩, h2⟩, h3, h4⟩
theorem vtake_w (B g : Nat) (w : World) (s : C.St) (h : RdrAt w B g s) (hT : TabsAt B w) :
  Calls Tryd.prog 94 #[.pointer (some ⟨g, 0, none⟩)] w fun e w' => e = .returned (.agg [.int .i64 ((V.take s).1.1 : Int), .int .u64 ((V.take s).1.2.1 : Int), .string ⟨(V.take s).1.2.2.toArray⟩].toArray) ∧ RdrAt w' B g (V.take s).2 ∧ w.grownBy w' (some g) := vtake_any B g w s h hT
theorem sizeArr (l : List UInt8) (h : l.length ≤ 65535) : (⟨l.toArray⟩ : ByteArray).size ≤ 9223372036854775807 := by
 show l.toArray.size ≤ _
 rw [List.size_toArray]; omega
theorem exec_min {a : Act} {o : Oper} {w : World} (s t : Operand) (ty : TypeId) (x y v : Int) (hv : (if y < x then y else x) = v) (ho : o.op = .call { callee := .builtin .min, args := #[s, t], argTypes := #[ty, ty] }) (hs : a.eval s = .int .i64 x) (ht : a.eval t = .int .i64 y) : (execOp a.eval o).run Tryd.prog w = .ok (.value (.int .i64 v)) w := by
 subst hv
 unfold execOp
 simp only [ho, resolve, invoke, builtin, Sem.run_bind, Sem.run_pure, Result.andThen_ok, List.map_toArray, List.map_cons, List.map_nil, hs, ht, run_min_int2]
theorem new_s {w z : World} {b : Value} {l : List UInt8} (ee : Below w.heap.size w z) (h : SlB w w.heap.size b l) : Calls Tryd.prog 87 #[b] z fun e w' => e = .returned (.pointer (some ⟨z.heap.size, 0, none⟩)) ∧ RdrAt w' w.heap.size z.heap.size (l, false) ∧ Below z.heap.size z w' := by
 obtain ⟨A, c, rfl, h1, h2, h3, h4⟩ := h
 exact new_any A c l z w.heap.size h1 h2 h3 (h4.belowM ee (Nat.le_refl _)) ee.size
theorem wrap8b (b : UInt8) : IntKind.u8.wrap (b.toNat : Int) = (b.toNat : Int) := by
 have := b.toNat_lt
 show (b.toNat : Int) % 256 = _
 omega
theorem heapIt {z z' : World} {base i p : Nat} {v : Value} {l : List UInt8} {st : ByteArray} (ho : OwnB z base v l) (hg : z.grownBy z' v.ownBlock) (h : z.heap[i]? = some (.stringIter st p)) : z'.heap[i]? = some (.stringIter st p) :=
 (hg.block i (Array.getElem?_eq_some_iff.1 h).1 (fun e => by
  obtain ⟨cs2, t2, e1⟩ := Lib.ownsRow_kind ho i e.symm
  rw [h] at e1
  injection e1 with e1; cases e1)).trans h
theorem rdrOwn {z z' : World} {B g : Nat} {v : Value} {l : List UInt8} {s : C.St} (h : RdrAt z B g s) (ho : OwnB z B v l) (hg : z.grownBy z' v.ownBlock) : RdrAt z' B g s := by
 obtain ⟨A, c, hb, h1, h2, h3, h4, h5⟩ := h
 refine ⟨A, c, heapKind ho hg (by decide) hb, h1, h2, h3, fun j u hu => ?_, h5⟩
 obtain ⟨b, off, e1, e2, e3⟩ := h4 j u hu
 exact ⟨b, off, e1, e2, (World.cell?_of_block (hg.block b (World.block_lt_of_cell? z _ e3) (fun e => by have := (ho.lt b e.symm).1; omega))).trans e3⟩
theorem CtK.rowB {z : World} {g a b d : Nat} {m : Ms} (h : CtK z g a b d m) (cs : Array Value) : CtK (z.setRow b cs) g a b d m := h.step (by rw [setRow_size]; exact Nat.le_refl _) fun i _ _ _ hb _ => setRow_other z b i cs hb
theorem TabsAt.belowM {w z : World} {B : Nat} (h : TabsAt B w) (hb : Below w.heap.size w z) : TabsAt B z := h.belowS hb
theorem bequal_s {z : World} {b c : Value} {l m : List UInt8} (h : SlB z z.heap.size b l) (g : SlB z z.heap.size c m) (w : World) (hw : w = z := by rfl) : Calls Tryd.prog 58 #[b, c] w fun e w' => e = .returned (.bool (decide (l = m))) ∧ w = w' := by
 subst hw
 obtain ⟨A, c1, rfl, _, _, _, h5⟩ := h
 obtain ⟨A2, c2, rfl, _, _, _, g5⟩ := g
 exact bequal_any A c1 l A2 c2 m w.heap.size w h5 g5
theorem SameC_cong {x y z : Cm} (h : SameC x y = true) : SameC x z = SameC y z := by
 obtain ⟨h1, h2, h3, h4, h5, h6, h7, h8, h9, h10⟩ := (SameC_iff x y).1 h
 unfold SameC
 rw [h1, h2, h3, h4, h5, h6, h7, h8, h9, h10]
theorem T.Like.formed {a b : Ms} (h : Like a b) : a.formed = b.formed := by
 rw [formed_eq, formed_eq]
 unfold T.Ms.rformed T.Ms.rfirst T.Ms.rsecond T.Tn.formed SameT
 rw [h.kd, h.br, h.bn, h.sl, h.ha, h.vr, h.vn, SameC.formed h.c, SameC_cong h.c, h.ts, h.tq, h.tr, h.tw, h.ii, h.ij, h.g, h.st, h.ye, h.nu, h.ky, h.ve, h.vk, h.vb, h.vt, h.er, h.dt]
/-- a message and an error are returned as the bytes say -/
def ReadIs (l : List UInt8) (e : Ending) (w' : World) : Prop :=
 ∃ n x, e = .returned (.tuple #[.agg n.cells.toArray, .int .i64 x]) ∧ MsOk w' w'.heap.size n ∧ x = (bif rok l then 0 else 2) ∧ Like n (bif rok l then rdm l else Ms.zero 0)
/-- how many bytes follow -/
def T.dn (s : C.St) : Nat := min (C.take 4 s).1 (C.left (C.take 4 s).2)
theorem dn_min (s : C.St) : (if ((C.left (C.take 4 s).2 : Nat) : Int) < ((C.take 4 s).1 : Int) then ((C.left (C.take 4 s).2 : Nat) : Int) else ((C.take 4 s).1 : Int)) = (T.dn s : Int) := by
 unfold T.dn
 split <;> omega
theorem dn_left (s : C.St) : T.dn s ≤ (C.take 4 s).2.1.length ∧ (T.dn s > 0 → (C.take 4 s).2.2 = false) := by
 unfold T.dn C.left
 constructor
 ·split <;> omega
 ·intro h
  cases hf : (C.take 4 s).2.2 with
  | false => rfl
  | true => exfalso; simp [hf] at h
theorem dn_bound (s : C.St) : T.dn s < 4294967296 := by
 have := t4 s
 unfold T.dn; omega
theorem mtk_dt (p : Ms × C.St) (c : Nat) (h : c ≠ 68) : (mtk p c).1.dt = p.1.dt := by
 by_cases hB : c = 66
 ·subst hB; rw [mtk_B]
 by_cases hS : c = 83
 ·subst hS; rw [mtk_S]
 by_cases hH : c = 72
 ·subst hH
  by_cases h1 : (C.take 1 p.2).1 = 1
  ·rw [mtk_H1 p h1]
  ·rw [mtk_H0 p h1]
 by_cases hC : c = 67
 ·subst hC; rw [mtk_C]
 by_cases hT : c = 84
 ·subst hT; rw [mtk_T]
 by_cases hI : c = 73
 ·subst hI; rw [mtk_I]
 by_cases hG : c = 71
 ·subst hG; rw [mtk_G]
 by_cases hP : c = 80
 ·subst hP; rw [mtk_P]
 by_cases hY : c = 89
 ·subst hY; rw [mtk_Y]
 by_cases hN : c = 78
 ·subst hN; rw [mtk_N]
 by_cases hK : c = 75
 ·subst hK; rw [mtk_K]
 by_cases hV : c = 86
 ·subst hV; rw [mtk_V]
 by_cases hX : c = 88
 ·subst hX; rw [mtk_X]
 by_cases hE : c = 69
 ·subst hE; rw [mtk_E]
 rw [mtk_none p c hB hS hH hC hT hI hG hP hY hN hK hV hX hE h]
theorem fold_dt (fs : List UInt8) (h : ∀ x ∈ fs, x ≠ 68) (p : Ms × C.St) : (fs.foldl (fun p c => mtk p c.toNat) p).1.dt = p.1.dt := by
 induction fs generalizing p with
 | nil => rfl
 | cons x r ih =>
  rw [List.foldl_cons, ih (fun y hy => h y (List.mem_cons_of_mem _ hy)), mtk_dt]
  intro e
  exact h x List.mem_cons_self (UInt8.toNat_inj.1 e)
theorem some_left (n : Nat) (s : C.St) : (C.some_ n s).2.1.length ≤ s.1.length := by
 unfold C.some_
 split
 ·exact Nat.le_refl _
 ·rw [List.length_drop]; omega
theorem take_left (n : Int) (s : C.St) : (C.take n s).2.1.length ≤ s.1.length := by
 unfold C.take
 split
 ·exact Nat.le_refl _
 ·exact some_left _ _
theorem rdm_data (l : List UInt8) : (rdm l).dt.length ≤ l.length := by
 unfold rdm
 by_cases hk : rk l = 15
 ·rw [hk, show fieldsOf 15 = [83, 68] from by decide]
  simp only [List.foldl_cons, List.foldl_nil]
  show (([] : List UInt8) ++ (dtake (C.take 4 (C.take 1 (l, false)).2).2).1).length ≤ _
  have h1 := take_left 1 (l, false)
  have h2 := take_left 4 (C.take 1 (l, false)).2
  have h3 := take_left 4 (C.take 4 (C.take 1 (l, false)).2).2
  unfold dtake
  simp only [List.nil_append, List.length_take]
  simp only at h1
  omega
 ·rw [fold_dt _ (fun x hx e => hk ((fld_mem _).1 x hx e))]
  exact Nat.zero_le _
theorem rd_data (l : List UInt8) (hl : l.length ≤ 100000000) {m : Ms} (h : Like m (rdm l)) : m.dt.length ≤ 100000000 := by
 rw [h.dt]; exact Nat.le_trans (rdm_data l) hl
theorem take1_head (l : List UInt8) (j : Nat) (h : j < l.length) : C.take 1 (l.drop j, false) = ((l[j]'h).toNat, (l.drop (j + 1), false)) := by
 have e : l.drop j = C.be (l[j]'h).toNat 1 ++ l.drop (j + 1) := by
  rw [List.drop_eq_getElem_cons h]
  have : C.be (l[j]'h).toNat 1 = [l[j]'h] := by
   have := put_one [] (l[j]'h).toNat
   rw [put1] at this
   simpa using this
  rw [this]; rfl
 rw [e, take1 _ (l[j]'h).toNat_lt]
theorem take_j {z : World} {B g j : Nat} {L : List UInt8} {f : Bool} (h : RdrAt z B g (L.drop j, f)) (hf : f = false) (hj : j < L.length) :
  ∃ b : UInt8, L.take (j + 1) = L.take j ++ [b] ∧ Calls Tryd.prog 88 #[.pointer (some ⟨g, 0, none⟩), .int .i64 1] z fun e w' => e = .returned (.int .u64 (b.toNat : Int)) ∧ RdrAt w' B g (L.drop (j + 1), f) ∧ z.grownBy w' (some g) := by
 subst hf
 refine ⟨L[j]'hj, List.take_succ_eq_append_getElem hj, ?_⟩
 have q := take_any B g 1 (L.drop j, false) z h
 rw [take1_head L j hj] at q
 exact q
theorem rok_yes {m : Ms} {l l1 : List UInt8} {x : Int} (lk : Like m (rdm l)) (hx : x = (bif m.formed then 0 else 2)) (hl : l1 = (bif m.formed then m.wr else [])) (h0 : x = 0) (he : l = l1) : rok l = true := by
 unfold rok
 cases hf : m.formed with
 | false => rw [hf] at hx; simp at hx; omega
 | true => rw [hf] at hl; rw [← lk.formed, ← lk.wr, hf, he, hl]; simp
theorem rok_no {m : Ms} {l l1 : List UInt8} {x : Int} (lk : Like m (rdm l)) (hx : x = (bif m.formed then 0 else 2)) (hl : l1 = (bif m.formed then m.wr else [])) (h : ¬ x = 0 ∨ x = 0 ∧ ¬ l = l1) : rok l = false := by
 unfold rok
 cases hf : m.formed with
 | false => rw [← lk.formed, hf]; rfl
 | true =>
  rw [hf] at hl hx
  simp only [cond_true] at hl hx
  rcases h with h | ⟨_, h⟩
  ·exact absurd hx h
  ·rw [← lk.wr, ← hl]; simp [h]
set_option maxHeartbeats 25600000 in
theorem mread_any {b : Value} {l : List UInt8} (w : World) (hb : SlB w w.heap.size b l) (hl : l.length ≤ 100000000) (hT : Tabs w) :
  Calls Tryd.prog 37 #[b] w fun e w' => ReadIs l e w' ∧ Below w.heap.size w w' := by
 have ee : Below w.heap.size w w := Below.refl _ _
 go_enter Tryd.func37, Tryd.ntmps37
 refine wp_seq_k fun K1 hK1 => ?_
 refine wp_region_lit ?_
 with_reducible refine ww (.pointer (some ⟨w.heap.size, 0, none⟩)) (w.alloc (.cells #[.int .i64 0, .int .u32 0, .int .i64 0, .int .i64 0, .bool false, .int .u32 0, .int .i64 0, .int .i64 0, .int .i64 0, .int .i64 0, .slice none 0 0, .slice none 0 0, .int .i64 0, .int .i64 0, .int .i64 0, .int .u64 0, .bool false, .int .i64 0, .int .i64 0, .slice none 0 0, .slice none 0 0, .int .i64 0, .int .i64 0, .int .i64 0, .int .u64 0, .bool false, .int .i64 0, .string ByteArray.empty, .int .u64 0, .int .i64 0, .int .u64 0, .string ByteArray.empty, .int .i64 0, .slice none 0 0] 39)) ?_
 try simp only [nP, nN, nA, n0, nS]
 have sz_g2 := ee.size
 have sz_ := ee.size
 have ee := ee.alloc ee.size (.cells #[.int .i64 0, .int .u32 0, .int .i64 0, .int .i64 0, .bool false, .int .u32 0, .int .i64 0, .int .i64 0, .int .i64 0, .int .i64 0, .slice none 0 0, .slice none 0 0, .int .i64 0, .int .i64 0, .int .i64 0, .int .u64 0, .bool false, .int .i64 0, .int .i64 0, .slice none 0 0, .slice none 0 0, .int .i64 0, .int .i64 0, .int .i64 0, .int .u64 0, .bool false, .int .i64 0, .string ByteArray.empty, .int .u64 0, .int .i64 0, .int .u64 0, .string ByteArray.empty, .int .i64 0, .slice none 0 0] 39)
 have Zv2 := hpN w (.cells #[.int .i64 0, .int .u32 0, .int .i64 0, .int .i64 0, .bool false, .int .u32 0, .int .i64 0, .int .i64 0, .int .i64 0, .int .i64 0, .slice none 0 0, .slice none 0 0, .int .i64 0, .int .i64 0, .int .i64 0, .int .u64 0, .bool false, .int .i64 0, .int .i64 0, .slice none 0 0, .slice none 0 0, .int .i64 0, .int .i64 0, .int .i64 0, .int .u64 0, .bool false, .int .i64 0, .string ByteArray.empty, .int .u64 0, .int .i64 0, .int .u64 0, .string ByteArray.empty, .int .i64 0, .slice none 0 0] 39) rfl
 generalize w.alloc (.cells #[.int .i64 0, .int .u32 0, .int .i64 0, .int .i64 0, .bool false, .int .u32 0, .int .i64 0, .int .i64 0, .int .i64 0, .int .i64 0, .slice none 0 0, .slice none 0 0, .int .i64 0, .int .i64 0, .int .i64 0, .int .u64 0, .bool false, .int .i64 0, .int .i64 0, .slice none 0 0, .slice none 0 0, .int .i64 0, .int .i64 0, .int .i64 0, .int .u64 0, .bool false, .int .i64 0, .string ByteArray.empty, .int .u64 0, .int .i64 0, .int .u64 0, .string ByteArray.empty, .int .i64 0, .slice none 0 0] 39) = z1 at Zv2 ee ⊢
 obtain ⟨g2, hg_g2⟩ : ∃ g_, g_ = w.heap.size := ⟨_, rfl⟩
 have hB_g2 : w.heap.size ≤ g2 := by rw [hg_g2]; exact sz_g2
 rw [← hg_g2] at Zv2 ⊢
 clear hg_g2
 with_reducible refine wv (.int .i64 0) ?_
 try simp only [nP, nN, nA, n0, nS]
 refine wpList_nil ?_
 refine hK1 _ _ ?_
 refine wp_seq_k fun K3 hK3 => ?_
 refine wp_region_lit ?_
 with_reducible refine wv (b) ?_
 try simp only [nP, nN, nA, n0, nS]
 with_reducible refine wc 87 #[b] (new_s ee hb) ?_
 rintro e z2 ⟨rfl, rr, t⟩
 refine ⟨_, rfl, ?_⟩
 obtain ⟨gr, hgr⟩ : ∃ g_, g_ = z1.heap.size := ⟨_, rfl⟩
 rw [← hgr] at rr ⊢
 have n_gr_Zv2 : g2 < gr := by rw [hgr]; exact (Array.getElem?_eq_some_iff.1 Zv2).1
 have hB_gr : w.heap.size ≤ gr := by rw [hgr]; exact ee.size
 clear hgr
 have Zv2 := hpB Zv2 t
 have ee := ee.trans (t.mono ee.size)
 clear t
 have tt : TabsAt w.heap.size z2 := (TabsAt.of hT (Nat.le_refl _)).belowM ee
 try simp only [nP, nN, nA, n0, nS]
 with_reducible refine wv (.pointer (some ⟨gr, 0, none⟩)) ?_
 try simp only [nP, nN, nA, n0, nS]
 refine wpList_nil ?_
 refine hK3 _ _ ?_
 refine wp_seq_k fun K4 hK4 => ?_
 refine wp_region_lit ?_
 with_reducible refine wv (.pointer (some ⟨gr, 0, none⟩)) ?_
 try simp only [nP, nN, nA, n0, nS]
 with_reducible refine wc 88 #[.pointer (some ⟨gr, 0, none⟩), .int .i64 1] (take_any w.heap.size gr 1 (l, false) z2 rr) ?_
 rintro e z3 ⟨rfl, rr_, g_⟩
 refine ⟨_, rfl, ?_⟩
 have Zv2 := heapG Zv2 g_ (by omega)
 have ee := ee.grown g_ ee.size (fun i_ h_ => by injection h_ with h_; omega)
 have tt := tt.grown g_ (by omega)
 clear rr g_
 have rr := rr_
 clear rr_
 try simp only [nP, nN, nA, n0, nS]
 with_reducible refine wq (.int .i64 ((rk l))) (okIntP ((w1k l) : IntKind.i64.wrap (((C.take 1 (l, false)).1 : Int)) = (rk l)) (by kernel_rfl)) ?_
 try simp only [nP, nN, nA, n0, nS]
 with_reducible refine wv (.agg ((Ms.zero (rk l)).cells).toArray) ?_
 try simp only [nP, nN, nA, n0, nS]
 with_reducible refine ww (.pointer (some ⟨z3.heap.size, 0, none⟩)) (z3.alloc (.cells #[.int .i64 0, .int .u32 0, .int .i64 0, .int .i64 0, .bool false, .int .u32 0, .int .i64 0, .int .i64 0, .int .i64 0, .int .i64 0, .slice none 0 0, .slice none 0 0, .int .i64 0, .int .i64 0, .int .i64 0, .int .u64 0, .bool false, .int .i64 0, .int .i64 0, .slice none 0 0, .slice none 0 0, .int .i64 0, .int .i64 0, .int .i64 0, .int .u64 0, .bool false, .int .i64 0, .string ByteArray.empty, .int .u64 0, .int .i64 0, .int .u64 0, .string ByteArray.empty, .int .i64 0, .slice none 0 0] 39)) ?_
 try simp only [nP, nN, nA, n0, nS]
 have sz_g5 := ee.size
 have lrr := rr.lt.1
 have rr := rr.alloc (.cells #[.int .i64 0, .int .u32 0, .int .i64 0, .int .i64 0, .bool false, .int .u32 0, .int .i64 0, .int .i64 0, .int .i64 0, .int .i64 0, .slice none 0 0, .slice none 0 0, .int .i64 0, .int .i64 0, .int .i64 0, .int .u64 0, .bool false, .int .i64 0, .int .i64 0, .slice none 0 0, .slice none 0 0, .int .i64 0, .int .i64 0, .int .i64 0, .int .u64 0, .bool false, .int .i64 0, .string ByteArray.empty, .int .u64 0, .int .i64 0, .int .u64 0, .string ByteArray.empty, .int .i64 0, .slice none 0 0] 39)
 have tt := tt.alloc (.cells #[.int .i64 0, .int .u32 0, .int .i64 0, .int .i64 0, .bool false, .int .u32 0, .int .i64 0, .int .i64 0, .int .i64 0, .int .i64 0, .slice none 0 0, .slice none 0 0, .int .i64 0, .int .i64 0, .int .i64 0, .int .u64 0, .bool false, .int .i64 0, .int .i64 0, .slice none 0 0, .slice none 0 0, .int .i64 0, .int .i64 0, .int .i64 0, .int .u64 0, .bool false, .int .i64 0, .string ByteArray.empty, .int .u64 0, .int .i64 0, .int .u64 0, .string ByteArray.empty, .int .i64 0, .slice none 0 0] 39)
 have lZv2 := (Array.getElem?_eq_some_iff.1 Zv2).1
 have sz_ := ee.size
 have Zv2 := hpA Zv2 (.cells #[.int .i64 0, .int .u32 0, .int .i64 0, .int .i64 0, .bool false, .int .u32 0, .int .i64 0, .int .i64 0, .int .i64 0, .int .i64 0, .slice none 0 0, .slice none 0 0, .int .i64 0, .int .i64 0, .int .i64 0, .int .u64 0, .bool false, .int .i64 0, .int .i64 0, .slice none 0 0, .slice none 0 0, .int .i64 0, .int .i64 0, .int .i64 0, .int .u64 0, .bool false, .int .i64 0, .string ByteArray.empty, .int .u64 0, .int .i64 0, .int .u64 0, .string ByteArray.empty, .int .i64 0, .slice none 0 0] 39)
 have ee := ee.alloc ee.size (.cells #[.int .i64 0, .int .u32 0, .int .i64 0, .int .i64 0, .bool false, .int .u32 0, .int .i64 0, .int .i64 0, .int .i64 0, .int .i64 0, .slice none 0 0, .slice none 0 0, .int .i64 0, .int .i64 0, .int .i64 0, .int .u64 0, .bool false, .int .i64 0, .int .i64 0, .slice none 0 0, .slice none 0 0, .int .i64 0, .int .i64 0, .int .i64 0, .int .u64 0, .bool false, .int .i64 0, .string ByteArray.empty, .int .u64 0, .int .i64 0, .int .u64 0, .string ByteArray.empty, .int .i64 0, .slice none 0 0] 39)
 have Zv5 := hpN z3 (.cells #[.int .i64 0, .int .u32 0, .int .i64 0, .int .i64 0, .bool false, .int .u32 0, .int .i64 0, .int .i64 0, .int .i64 0, .int .i64 0, .slice none 0 0, .slice none 0 0, .int .i64 0, .int .i64 0, .int .i64 0, .int .u64 0, .bool false, .int .i64 0, .int .i64 0, .slice none 0 0, .slice none 0 0, .int .i64 0, .int .i64 0, .int .i64 0, .int .u64 0, .bool false, .int .i64 0, .string ByteArray.empty, .int .u64 0, .int .i64 0, .int .u64 0, .string ByteArray.empty, .int .i64 0, .slice none 0 0] 39) rfl
 generalize z3.alloc (.cells #[.int .i64 0, .int .u32 0, .int .i64 0, .int .i64 0, .bool false, .int .u32 0, .int .i64 0, .int .i64 0, .int .i64 0, .int .i64 0, .slice none 0 0, .slice none 0 0, .int .i64 0, .int .i64 0, .int .i64 0, .int .u64 0, .bool false, .int .i64 0, .int .i64 0, .slice none 0 0, .slice none 0 0, .int .i64 0, .int .i64 0, .int .i64 0, .int .u64 0, .bool false, .int .i64 0, .string ByteArray.empty, .int .u64 0, .int .i64 0, .int .u64 0, .string ByteArray.empty, .int .i64 0, .slice none 0 0] 39) = z4 at Zv2 Zv5 ee rr tt ⊢
 obtain ⟨g5, hg_g5⟩ : ∃ g_, g_ = z3.heap.size := ⟨_, rfl⟩
 have n_g5_Zv2 : g2 < g5 := by rw [hg_g5]; exact lZv2
 have n_g5_rr : gr < g5 := by rw [hg_g5]; exact lrr
 clear lrr
 have hB_g5 : w.heap.size ≤ g5 := by rw [hg_g5]; exact sz_g5
 rw [← hg_g5] at Zv5 ⊢
 clear hg_g5 lZv2
 refine wpList_store_row rfl 39 _ _ rfl (g5) ((Ms.zero (rk l)).cells).toArray rfl rfl 39 _ Zv5 sizeMs (by rfl) (Ms.one _) ?_
 have rr := RdrAt.row (k := g5) (cs := ((Ms.zero (rk l)).cells).toArray) rr (by omega) (by omega)
 have tt := TabsAt.row (k := g5) (cs := ((Ms.zero (rk l)).cells).toArray) tt (by omega)
 have N_ := setRow_heap z4 (g5) _ ((Ms.zero (rk l)).cells).toArray _ _ Zv5
 have ee := belowSet (cs := ((Ms.zero (rk l)).cells).toArray) ee Zv5 (by omega)
 have Zv2 := hpR Zv2 (g' := g5) (by omega) ((Ms.zero (rk l)).cells).toArray
 clear Zv5
 have Zv5 := N_
 clear N_
 generalize z4.setRow (g5) ((Ms.zero (rk l)).cells).toArray = z5 at Zv2 Zv5 ee rr tt ⊢
 try simp only [nP, nN, nA, n0, nS]
 refine wpList_nil ?_
 refine hK4 _ _ ?_
 refine wp_seq_k fun K6 hK6 => ?_
 refine wp_seq_k fun K7 hK7 => ?_
 refine wp_region_lit ?_
 with_reducible refine wv (.pointer (some ⟨g5, 0, none⟩)) ?_
 try simp only [nP, nN, nA, n0, nS]
 with_reducible refine wl (.int .i64 ((rk l))) ⟨g5, 0, none⟩ (rowCell Zv5 (0) rfl) Tryd.underlying3 ?_
 try simp only [nP, nN, nA, n0, nS]
 with_reducible refine wc 40 #[.int .i64 ((rk l))] (fields_any (rk l) z5) ?_
 rintro e z6 ⟨rfl, hw_⟩
 refine ⟨_, rfl, ?_⟩
 rw [← hw_]
 clear hw_ z6
 try simp only [nP, nN, nA, n0, nS]
 with_reducible refine ww (.pointer (some ⟨z5.heap.size, 0, none⟩)) (z5.alloc (.stringIter (⟨(fieldsOf (rk l)).toArray⟩) 0)) ?_
 try simp only [nP, nN, nA, n0, nS]
 have sz_g8 := ee.size
 have lZv2 := (Array.getElem?_eq_some_iff.1 Zv2).1
 have lZv5 := (Array.getElem?_eq_some_iff.1 Zv5).1
 have lrr := rr.lt.1
 have rr := rr.alloc (.stringIter (⟨(fieldsOf (rk l)).toArray⟩) 0)
 have tt := tt.alloc (.stringIter (⟨(fieldsOf (rk l)).toArray⟩) 0)
 have Zv2 := hpA Zv2 (.stringIter (⟨(fieldsOf (rk l)).toArray⟩) 0)
 have Zv5 := hpA Zv5 (.stringIter (⟨(fieldsOf (rk l)).toArray⟩) 0)
 have ee := ee.alloc ee.size (.stringIter (⟨(fieldsOf (rk l)).toArray⟩) 0)
 have Zi20 := hpN z5 (.stringIter (⟨(fieldsOf (rk l)).toArray⟩) 0) rfl
 obtain ⟨g8, hg_g8⟩ : ∃ g_, g_ = z5.heap.size := ⟨_, rfl⟩
 have n_g8_Zv2 : g2 < g8 := by rw [hg_g8]; exact lZv2
 have n_g8_Zv5 : g5 < g8 := by rw [hg_g8]; exact lZv5
 have n_g8_rr : gr < g8 := by rw [hg_g8]; exact lrr
 clear lrr
 have hB_g8 : w.heap.size ≤ g8 := by rw [hg_g8]; exact sz_g8
 rw [← hg_g8] at Zi20 ⊢
 clear hg_g8 lZv2 lZv5
 generalize z5.alloc (.stringIter (⟨(fieldsOf (rk l)).toArray⟩) 0) = z7 at Zv2 Zv5 ee rr tt Zi20 ⊢
 refine wpList_nil ?_
 refine hK7 _ _ ?_
 refine wp_block ?_
 have hp : (Ms.zero (rk l), (C.take 1 (l, false)).2) = rd l 0 := (rd_zero l).symm
 have O : OwnB z7 w.heap.size (.slice (Ms.zero (rk l)).D (Ms.zero (rk l)).dt.length (Ms.zero (rk l)).dc) (Ms.zero (rk l)).dt := OwnB.nil
 have ck := CtK.zero z7 gr g5 g2 g8 (rk l)
 have nk := numZero (rk l)
 have lk := Like.refl (Ms.zero (rk l))
 have jk : rk l = 15 → (Ms.zero (rk l)).c = Cm.zero ∧ (Ms.zero (rk l)).t = Tn.zero ∧ (0 ≤ 1 → (Ms.zero (rk l)).dt = []) := fun _ => ⟨rfl, rfl, fun _ => rfl⟩
 with_reducible refine wp_loop_su ((fieldsOf (rk l)).length) (fun k u_ alzl8 zl8 => ∃ (m : Ms) (p : Ms × C.St), alzl8 = ⟨#[b, undef, .pointer (some ⟨g2, 0, none⟩), .int .i64 0, .pointer (some ⟨gr, 0, none⟩), .pointer (some ⟨g5, 0, none⟩), undef, u_ 7, u_ 8, undef, undef, b, .pointer (some ⟨gr, 0, none⟩), .pointer (some ⟨gr, 0, none⟩), .int .u64 (((C.take 1 (l, false)).1 : Int)), .int .i64 ((rk l)), .agg ((Ms.zero (rk l)).cells).toArray, .pointer (some ⟨g5, 0, none⟩), .int .i64 ((rk l)), .string (⟨(fieldsOf (rk l)).toArray⟩), .pointer (some ⟨g8, 0, none⟩), u_ 21, u_ 22, u_ 23, u_ 24, u_ 25, u_ 26, u_ 27, u_ 28, u_ 29, u_ 30, u_ 31, u_ 32, u_ 33, u_ 34, u_ 35, u_ 36, u_ 37, u_ 38, u_ 39, u_ 40, u_ 41, u_ 42, u_ 43, u_ 44, u_ 45, u_ 46, u_ 47, u_ 48, u_ 49, u_ 50, u_ 51, u_ 52, u_ 53, u_ 54, u_ 55, u_ 56, u_ 57, u_ 58, u_ 59, u_ 60, u_ 61, u_ 62, u_ 63, u_ 64, u_ 65, u_ 66, u_ 67, u_ 68, u_ 69, u_ 70, u_ 71, u_ 72, u_ 73, u_ 74, u_ 75, u_ 76, u_ 77, u_ 78, u_ 79, u_ 80, u_ 81, u_ 82, u_ 83, u_ 84, u_ 85, u_ 86, u_ 87, u_ 88, u_ 89, u_ 90, u_ 91, u_ 92, u_ 93, u_ 94, u_ 95, u_ 96, u_ 97, u_ 98, u_ 99, u_ 100, u_ 101, u_ 102, u_ 103, u_ 104, u_ 105, u_ 106, u_ 107, u_ 108, u_ 109, u_ 110, u_ 111, u_ 112, u_ 113, u_ 114, u_ 115, u_ 116, u_ 117, u_ 118, u_ 119, u_ 120, u_ 121, u_ 122, u_ 123, u_ 124, u_ 125, u_ 126, u_ 127, u_ 128, undef, undef, undef, undef, undef, undef, undef, undef, undef, undef, undef, undef, undef, undef, undef], []⟩ ∧ Hid (zl8.heap[g2]? = some (.cells #[.int .i64 0, .int .u32 0, .int .i64 0, .int .i64 0, .bool false, .int .u32 0, .int .i64 0, .int .i64 0, .int .i64 0, .int .i64 0, .slice none 0 0, .slice none 0 0, .int .i64 0, .int .i64 0, .int .i64 0, .int .u64 0, .bool false, .int .i64 0, .int .i64 0, .slice none 0 0, .slice none 0 0, .int .i64 0, .int .i64 0, .int .i64 0, .int .u64 0, .bool false, .int .i64 0, .string ByteArray.empty, .int .u64 0, .int .i64 0, .int .u64 0, .string ByteArray.empty, .int .i64 0, .slice none 0 0] 39 (0, 0))) ∧ Hid (zl8.heap[g5]? = some (.cells (m.cells).toArray 39 (0, 0))) ∧ Hid (zl8.heap[g8]? = some (Obj.stringIter (⟨(fieldsOf (rk l)).toArray⟩) k)) ∧ Hid (Below w.heap.size w zl8) ∧ Hid (RdrAt zl8 w.heap.size gr p.2) ∧ Hid (TabsAt w.heap.size zl8) ∧ Hid (OwnB zl8 w.heap.size (.slice m.D m.dt.length m.dc) m.dt) ∧ Hid (CtK zl8 gr g5 g2 g8 m) ∧ Hid (p = rd l k) ∧ Hid (NumOk m) ∧ Hid (Like m p.1) ∧ Hid (rk l = 15 → m.c = Cm.zero ∧ m.t = Tn.zero ∧ (k ≤ 1 → m.dt = []))) 0 (Nat.zero_le _) ?_ ?_
 ·exact ⟨Ms.zero (rk l), (Ms.zero (rk l), (C.take 1 (l, false)).2), by kernel_rfl, Zv2, Zv5, Zi20, ee, rr, tt, O, ck, hp, nk, lk, jk⟩
 clear Zv2 Zv5 Zi20 ee rr tt O ck hp nk lk jk
 intro k u_ alzl8 zl8 hkzl8 hszl8
 obtain ⟨m, p, rfl, Zv2, Zv5, Zi20, ee, rr, tt, O, ck, hp, nk, lk, jk⟩ := hszl8
 have Zv2 := Zv2.out
 have Zv5 := Zv5.out
 have Zi20 := Zi20.out
 have ee := ee.out
 have rr := rr.out
 have tt := tt.out
 have O := O.out
 have ck := ck.out
 have hp := hp.out
 have nk := nk.out
 have lk := lk.out
 have jk := jk.out
 refine wp_seq_k fun K10 hK10 => ?_
 refine wp_region_lit ?_
 by_cases hkl : k < (fieldsOf (rk l)).length
 ·have hsz : k < (⟨(fieldsOf (rk l)).toArray⟩ : ByteArray).size := by show k < (fieldsOf (rk l)).toArray.size; rw [List.size_toArray]; exact hkl
  have hgt : ((⟨(fieldsOf (rk l)).toArray⟩ : ByteArray)[k]'hsz) = (fieldsOf (rk l))[k]'hkl := rfl
  obtain ⟨c, hc⟩ : ∃ c : Nat, ((fieldsOf (rk l))[k]'hkl).toNat = c := ⟨_, rfl⟩
  have hw1 := rd_succ l k hkl
  rw [hc, ← hp] at hw1
  have h68 := fld68 (rk l) k hkl
  have h15 := fun h => fld15 (rk l) h k hkl
  rw [hc] at h68
  simp only [hc] at h15
  have hnx := fun ty => Lib.run_next_ascii_at (P := Tryd.prog) zl8 g8 ⟨(fieldsOf (rk l)).toArray⟩ k ty Zi20 hsz (by rw [hgt]; exact fieldsOf_ascii _ _ (List.getElem_mem hkl))
  rw [hgt, hc] at hnx
  with_reducible refine wn (.tuple #[.bool true, .int .i64 ((k : Int)), .int .i32 ((c : Int))]) (zl8.iterAt g8 ⟨(fieldsOf (rk l)).toArray⟩ (k + 1)) hnx ?_
  try simp only [nP, nN, nA, n0, nS]
  have rr := rdrIter (k := g8) (st := ⟨(fieldsOf (rk l)).toArray⟩) rr (by omega) (by omega) (k + 1)
  have tt := tabIter (k := g8) (st := ⟨(fieldsOf (rk l)).toArray⟩) tt (by omega) (k + 1)
  have ck := ck.iter (⟨(fieldsOf (rk l)).toArray⟩) (k + 1)
  have O := ownIter O Zi20 (k + 1)
  have Zv2 := (Lib.iterAt_other zl8 g8 _ (⟨(fieldsOf (rk l)).toArray⟩) (k + 1) (by omega)).trans Zv2
  have Zv5 := (Lib.iterAt_other zl8 g8 _ (⟨(fieldsOf (rk l)).toArray⟩) (k + 1) (by omega)).trans Zv5
  have ee := Lib.below_iterAt ee (k := g8) (by omega) (⟨(fieldsOf (rk l)).toArray⟩) (k + 1)
  have Zi20 := Lib.iterAt_heap zl8 g8 (⟨(fieldsOf (rk l)).toArray⟩) _ (k + 1) Zi20
  generalize zl8.iterAt g8 (⟨(fieldsOf (rk l)).toArray⟩) (k + 1) = z8 at Zv2 Zv5 O ee rr tt ck Zi20 ⊢
  clear hnx
  with_reducible refine wv (.bool true) ?_
  try simp only [nP, nN, nA, n0, nS]
  refine wpList_nil ?_
  refine hK10 _ _ ?_
  refine wp_seq_k fun K11 hK11 => ?_
  refine wp_cond_true (by kernel_rfl) ?_
  refine wp_skip ?_
  refine hK11 _ _ ?_
  refine wp_block ?_
  refine wp_seq_k fun K12 hK12 => ?_
  refine wp_region_lit ?_
  with_reducible refine wv (.int .i32 ((c : Int))) ?_
  try simp only [nP, nN, nA, n0, nS]
  with_reducible refine wv (.int .i32 ((c : Int))) ?_
  try simp only [nP, nN, nA, n0, nS]
  refine wpList_nil ?_
  refine hK12 _ _ ?_
  refine wp_seq_k fun K13 hK13 => ?_
  refine wp_region_lit ?_
  with_reducible refine wv (.int .i32 ((c : Int))) ?_
  try simp only [nP, nN, nA, n0, nS]
  refine wpList_nil ?_
  refine hK13 _ _ ?_
  refine wp_block ?_
  refine wp_seq_k fun K14 hK14 => ?_
  refine wp_region_lit ?_
  obtain ⟨b15, hb15⟩ : ∃ d_ : Bool, (decide ((c : Int) = 66)) = d_ := ⟨_, rfl⟩
  with_reducible refine wb (.bool b15) (.int .i32 ((c : Int))) (.int .i32 66) 21 (run_eqlI hb15) ?_
  try simp only [nP, nN, nA, n0, nS]
  with_reducible refine wv (.bool b15) ?_
  try simp only [nP, nN, nA, n0, nS]
  refine wpList_nil ?_
  refine hK14 _ _ ?_
  cases b15
  ·have pb15 : ¬ ((c : Int) = 66) := of_decide_eq_false hb15
   refine wp_cond_false (by kernel_rfl) ?_
   refine wp_seq_k fun K16 hK16 => ?_
   refine wp_region_lit ?_
   obtain ⟨b17, hb17⟩ : ∃ d_ : Bool, (decide ((c : Int) = 83)) = d_ := ⟨_, rfl⟩
   with_reducible refine wb (.bool b17) (.int .i32 ((c : Int))) (.int .i32 83) 21 (run_eqlI hb17) ?_
   try simp only [nP, nN, nA, n0, nS]
   with_reducible refine wv (.bool b17) ?_
   try simp only [nP, nN, nA, n0, nS]
   refine wpList_nil ?_
   refine hK16 _ _ ?_
   cases b17
   ·have pb17 : ¬ ((c : Int) = 83) := of_decide_eq_false hb17
    refine wp_cond_false (by kernel_rfl) ?_
    refine wp_seq_k fun K18 hK18 => ?_
    refine wp_region_lit ?_
    obtain ⟨b19, hb19⟩ : ∃ d_ : Bool, (decide ((c : Int) = 72)) = d_ := ⟨_, rfl⟩
    with_reducible refine wb (.bool b19) (.int .i32 ((c : Int))) (.int .i32 72) 21 (run_eqlI hb19) ?_
    try simp only [nP, nN, nA, n0, nS]
    with_reducible refine wv (.bool b19) ?_
    try simp only [nP, nN, nA, n0, nS]
    refine wpList_nil ?_
    refine hK18 _ _ ?_
    cases b19
    ·have pb19 : ¬ ((c : Int) = 72) := of_decide_eq_false hb19
     refine wp_cond_false (by kernel_rfl) ?_
     refine wp_seq_k fun K20 hK20 => ?_
     refine wp_region_lit ?_
     obtain ⟨b21, hb21⟩ : ∃ d_ : Bool, (decide ((c : Int) = 67)) = d_ := ⟨_, rfl⟩
     with_reducible refine wb (.bool b21) (.int .i32 ((c : Int))) (.int .i32 67) 21 (run_eqlI hb21) ?_
     try simp only [nP, nN, nA, n0, nS]
     with_reducible refine wv (.bool b21) ?_
     try simp only [nP, nN, nA, n0, nS]
     refine wpList_nil ?_
     refine hK20 _ _ ?_
     cases b21
     ·have pb21 : ¬ ((c : Int) = 67) := of_decide_eq_false hb21
      refine wp_cond_false (by kernel_rfl) ?_
      refine wp_seq_k fun K22 hK22 => ?_
      refine wp_region_lit ?_
      obtain ⟨b23, hb23⟩ : ∃ d_ : Bool, (decide ((c : Int) = 84)) = d_ := ⟨_, rfl⟩
      with_reducible refine wb (.bool b23) (.int .i32 ((c : Int))) (.int .i32 84) 21 (run_eqlI hb23) ?_
      try simp only [nP, nN, nA, n0, nS]
      with_reducible refine wv (.bool b23) ?_
      try simp only [nP, nN, nA, n0, nS]
      refine wpList_nil ?_
      refine hK22 _ _ ?_
      cases b23
      ·have pb23 : ¬ ((c : Int) = 84) := of_decide_eq_false hb23
       refine wp_cond_false (by kernel_rfl) ?_
       refine wp_seq_k fun K24 hK24 => ?_
       refine wp_region_lit ?_
       obtain ⟨b25, hb25⟩ : ∃ d_ : Bool, (decide ((c : Int) = 73)) = d_ := ⟨_, rfl⟩
       with_reducible refine wb (.bool b25) (.int .i32 ((c : Int))) (.int .i32 73) 21 (run_eqlI hb25) ?_
       try simp only [nP, nN, nA, n0, nS]
       with_reducible refine wv (.bool b25) ?_
       try simp only [nP, nN, nA, n0, nS]
       refine wpList_nil ?_
       refine hK24 _ _ ?_
       cases b25
       ·have pb25 : ¬ ((c : Int) = 73) := of_decide_eq_false hb25
        refine wp_cond_false (by kernel_rfl) ?_
        refine wp_seq_k fun K26 hK26 => ?_
        refine wp_region_lit ?_
        obtain ⟨b27, hb27⟩ : ∃ d_ : Bool, (decide ((c : Int) = 71)) = d_ := ⟨_, rfl⟩
        with_reducible refine wb (.bool b27) (.int .i32 ((c : Int))) (.int .i32 71) 21 (run_eqlI hb27) ?_
        try simp only [nP, nN, nA, n0, nS]
        with_reducible refine wv (.bool b27) ?_
        try simp only [nP, nN, nA, n0, nS]
        refine wpList_nil ?_
        refine hK26 _ _ ?_
        cases b27
        ·have pb27 : ¬ ((c : Int) = 71) := of_decide_eq_false hb27
         refine wp_cond_false (by kernel_rfl) ?_
         refine wp_seq_k fun K28 hK28 => ?_
         refine wp_region_lit ?_
         obtain ⟨b29, hb29⟩ : ∃ d_ : Bool, (decide ((c : Int) = 80)) = d_ := ⟨_, rfl⟩
         with_reducible refine wb (.bool b29) (.int .i32 ((c : Int))) (.int .i32 80) 21 (run_eqlI hb29) ?_
         try simp only [nP, nN, nA, n0, nS]
         with_reducible refine wv (.bool b29) ?_
         try simp only [nP, nN, nA, n0, nS]
         refine wpList_nil ?_
         refine hK28 _ _ ?_
         cases b29
         ·have pb29 : ¬ ((c : Int) = 80) := of_decide_eq_false hb29
          refine wp_cond_false (by kernel_rfl) ?_
          refine wp_seq_k fun K30 hK30 => ?_
          refine wp_region_lit ?_
          obtain ⟨b31, hb31⟩ : ∃ d_ : Bool, (decide ((c : Int) = 89)) = d_ := ⟨_, rfl⟩
          with_reducible refine wb (.bool b31) (.int .i32 ((c : Int))) (.int .i32 89) 21 (run_eqlI hb31) ?_
          try simp only [nP, nN, nA, n0, nS]
          with_reducible refine wv (.bool b31) ?_
          try simp only [nP, nN, nA, n0, nS]
          refine wpList_nil ?_
          refine hK30 _ _ ?_
          cases b31
          ·have pb31 : ¬ ((c : Int) = 89) := of_decide_eq_false hb31
           refine wp_cond_false (by kernel_rfl) ?_
           refine wp_seq_k fun K32 hK32 => ?_
           refine wp_region_lit ?_
           obtain ⟨b33, hb33⟩ : ∃ d_ : Bool, (decide ((c : Int) = 78)) = d_ := ⟨_, rfl⟩
           with_reducible refine wb (.bool b33) (.int .i32 ((c : Int))) (.int .i32 78) 21 (run_eqlI hb33) ?_
           try simp only [nP, nN, nA, n0, nS]
           with_reducible refine wv (.bool b33) ?_
           try simp only [nP, nN, nA, n0, nS]
           refine wpList_nil ?_
           refine hK32 _ _ ?_
           cases b33
           ·have pb33 : ¬ ((c : Int) = 78) := of_decide_eq_false hb33
            refine wp_cond_false (by kernel_rfl) ?_
            refine wp_seq_k fun K34 hK34 => ?_
            refine wp_region_lit ?_
            obtain ⟨b35, hb35⟩ : ∃ d_ : Bool, (decide ((c : Int) = 75)) = d_ := ⟨_, rfl⟩
            with_reducible refine wb (.bool b35) (.int .i32 ((c : Int))) (.int .i32 75) 21 (run_eqlI hb35) ?_
            try simp only [nP, nN, nA, n0, nS]
            with_reducible refine wv (.bool b35) ?_
            try simp only [nP, nN, nA, n0, nS]
            refine wpList_nil ?_
            refine hK34 _ _ ?_
            cases b35
            ·have pb35 : ¬ ((c : Int) = 75) := of_decide_eq_false hb35
             refine wp_cond_false (by kernel_rfl) ?_
             refine wp_seq_k fun K36 hK36 => ?_
             refine wp_region_lit ?_
             obtain ⟨b37, hb37⟩ : ∃ d_ : Bool, (decide ((c : Int) = 86)) = d_ := ⟨_, rfl⟩
             with_reducible refine wb (.bool b37) (.int .i32 ((c : Int))) (.int .i32 86) 21 (run_eqlI hb37) ?_
             try simp only [nP, nN, nA, n0, nS]
             with_reducible refine wv (.bool b37) ?_
             try simp only [nP, nN, nA, n0, nS]
             refine wpList_nil ?_
             refine hK36 _ _ ?_
             cases b37
             ·have pb37 : ¬ ((c : Int) = 86) := of_decide_eq_false hb37
              refine wp_cond_false (by kernel_rfl) ?_
              refine wp_seq_k fun K38 hK38 => ?_
              refine wp_region_lit ?_
              obtain ⟨b39, hb39⟩ : ∃ d_ : Bool, (decide ((c : Int) = 88)) = d_ := ⟨_, rfl⟩
              with_reducible refine wb (.bool b39) (.int .i32 ((c : Int))) (.int .i32 88) 21 (run_eqlI hb39) ?_
              try simp only [nP, nN, nA, n0, nS]
              with_reducible refine wv (.bool b39) ?_
              try simp only [nP, nN, nA, n0, nS]
              refine wpList_nil ?_
              refine hK38 _ _ ?_
              cases b39
              ·have pb39 : ¬ ((c : Int) = 88) := of_decide_eq_false hb39
               refine wp_cond_false (by kernel_rfl) ?_
               refine wp_seq_k fun K40 hK40 => ?_
               refine wp_region_lit ?_
               obtain ⟨b41, hb41⟩ : ∃ d_ : Bool, (decide ((c : Int) = 69)) = d_ := ⟨_, rfl⟩
               with_reducible refine wb (.bool b41) (.int .i32 ((c : Int))) (.int .i32 69) 21 (run_eqlI hb41) ?_
               try simp only [nP, nN, nA, n0, nS]
               with_reducible refine wv (.bool b41) ?_
               try simp only [nP, nN, nA, n0, nS]
               refine wpList_nil ?_
               refine hK40 _ _ ?_
               cases b41
               ·have pb41 : ¬ ((c : Int) = 69) := of_decide_eq_false hb41
                refine wp_cond_false (by kernel_rfl) ?_
                refine wp_seq_k fun K42 hK42 => ?_
                refine wp_region_lit ?_
                obtain ⟨b43, hb43⟩ : ∃ d_ : Bool, (decide ((c : Int) = 68)) = d_ := ⟨_, rfl⟩
                with_reducible refine wb (.bool b43) (.int .i32 ((c : Int))) (.int .i32 68) 21 (run_eqlI hb43) ?_
                try simp only [nP, nN, nA, n0, nS]
                with_reducible refine wv (.bool b43) ?_
                try simp only [nP, nN, nA, n0, nS]
                refine wpList_nil ?_
                refine hK42 _ _ ?_
                cases b43
                ·have pb43 : ¬ ((c : Int) = 68) := of_decide_eq_false hb43
                 refine wp_cond_false (by kernel_rfl) ?_
                 refine wp_skip ?_
                 refine inBlock_normal ?_
                 refine inBlock_normal ?_
                 refine then_normal ?_
                 exact ⟨hkl, m, p, by kernel_rfl, Zv2, Zv5, Zi20, ee, rr, tt, O, ck, (by show _ = _; rw [hw1, mtk_none p c (by omega) (by omega) (by omega) (by omega) (by omega) (by omega) (by omega) (by omega) (by omega) (by omega) (by omega) (by omega) (by omega) (by omega) (by omega)]), nk, lk, (fun h_ => ⟨(jk h_).1, (jk h_).2.1, fun _ => (jk h_).2.2 (by omega)⟩)⟩
                have pb43 : (c : Int) = 68 := of_decide_eq_true hb43
                have eb43 : (c : Int) = 68 := of_decide_eq_true hb43
                refine wp_cond_true (by kernel_rfl) ?_
                refine wp_seq_k fun K44 hK44 => ?_
                refine wp_region_lit ?_
                with_reducible refine wv (.pointer (some ⟨gr, 0, none⟩)) ?_
                try simp only [nP, nN, nA, n0, nS]
                with_reducible refine wc 88 #[.pointer (some ⟨gr, 0, none⟩), .int .i64 4] (take_any w.heap.size gr 4 p.2 z8 rr) ?_
                rintro e z9 ⟨rfl, rr_, g_⟩
                refine ⟨_, rfl, ?_⟩
                have Zv2 := heapG Zv2 g_ (by omega)
                have Zv5 := heapG Zv5 g_ (by omega)
                have Zi20 := heapG Zi20 g_ (by omega)
                have O := ownRdr O rr g_
                have ee := ee.grown g_ ee.size (fun i_ h_ => by injection h_ with h_; omega)
                have tt := tt.grown g_ (by omega)
                have ck := ck.rdr g_
                clear rr g_
                have rr := rr_
                clear rr_
                try simp only [nP, nN, nA, n0, nS]
                with_reducible refine wq (.int .i64 (((C.take 4 p.2).1 : Int))) (okIntP ((w4 p.2) : IntKind.i64.wrap (((C.take 4 p.2).1 : Int)) = ((C.take 4 p.2).1 : Int)) (by kernel_rfl)) ?_
                try simp only [nP, nN, nA, n0, nS]
                with_reducible refine wv (.pointer (some ⟨gr, 0, none⟩)) ?_
                try simp only [nP, nN, nA, n0, nS]
                with_reducible refine wc 95 #[.pointer (some ⟨gr, 0, none⟩)] (left_any w.heap.size gr (C.take 4 p.2).2 z9 rr) ?_
                rintro e z10 ⟨rfl, hw_⟩
                refine ⟨_, rfl, ?_⟩
                rw [← hw_]
                clear hw_ z10
                try simp only [nP, nN, nA, n0, nS]
                with_reducible refine wq (.int .i64 ((T.dn p.2 : Int))) (exec_min (.tmp 113) (.tmp 115) 3 ((C.take 4 p.2).1 : Int) ((C.left (C.take 4 p.2).2 : Nat) : Int) _ (dn_min p.2) (by kernel_rfl) (by kernel_rfl) (by kernel_rfl)) ?_
                try simp only [nP, nN, nA, n0, nS]
                with_reducible refine wv (.int .i64 ((T.dn p.2 : Int))) ?_
                try simp only [nP, nN, nA, n0, nS]
                refine wpList_nil ?_
                refine hK44 _ _ ?_
                refine wp_block ?_
                have hdn := dn_left p.2
                have hdb := dn_bound p.2
                obtain ⟨e15, ek1⟩ := h68 (by omega)
                obtain ⟨ec, et, ed⟩ := jk e15
                have hd0 : m.dt.length = 0 := by rw [ed (by omega)]; rfl
                have O : OwnB z9 w.heap.size (.slice m.D (m.dt ++ (C.take 4 p.2).2.1.take 0).length m.dc) (m.dt ++ (C.take 4 p.2).2.1.take 0) := by rw [List.take_zero, List.append_nil]; exact O
                have Zv5 : z9.heap[g5]? = some (.cells (({ m with dt := m.dt ++ (C.take 4 p.2).2.1.take 0, D := m.D, dc := m.dc } : Ms).cells).toArray 39 (0, 0)) := by rw [List.take_zero, List.append_nil]; exact Zv5
                with_reducible refine wp_loop_su (T.dn p.2) (fun j u_ alzl44 zl44 => ∃ (D' : Option Addr) (dc' : Nat), alzl44 = ⟨#[b, undef, .pointer (some ⟨g2, 0, none⟩), .int .i64 0, .pointer (some ⟨gr, 0, none⟩), .pointer (some ⟨g5, 0, none⟩), undef, .int .i32 ((c : Int)), .int .i64 (((T.dn p.2 : Int) - ((j : Nat) : Int))), undef, undef, b, .pointer (some ⟨gr, 0, none⟩), .pointer (some ⟨gr, 0, none⟩), .int .u64 (((C.take 1 (l, false)).1 : Int)), .int .i64 ((rk l)), .agg ((Ms.zero (rk l)).cells).toArray, .pointer (some ⟨g5, 0, none⟩), .int .i64 ((rk l)), .string (⟨(fieldsOf (rk l)).toArray⟩), .pointer (some ⟨g8, 0, none⟩), .tuple #[.bool true, .int .i64 ((k : Int)), .int .i32 ((c : Int))], .bool true, .int .i32 ((c : Int)), .int .i32 ((c : Int)), .bool false, .bool false, u_ 27, u_ 28, u_ 29, .bool false, .bool false, u_ 32, u_ 33, u_ 34, u_ 35, .bool false, .bool false, u_ 38, u_ 39, u_ 40, u_ 41, u_ 42, u_ 43, u_ 44, u_ 45, u_ 46, u_ 47, u_ 48, u_ 49, .bool false, .bool false, u_ 52, u_ 53, u_ 54, .bool false, .bool false, u_ 57, u_ 58, u_ 59, .bool false, .bool false, u_ 62, u_ 63, u_ 64, .bool false, .bool false, u_ 67, u_ 68, u_ 69, u_ 70, .bool false, .bool false, u_ 73, u_ 74, u_ 75, .bool false, .bool false, u_ 78, u_ 79, u_ 80, u_ 81, .bool false, .bool false, u_ 84, u_ 85, u_ 86, u_ 87, .bool false, .bool false, u_ 90, u_ 91, u_ 92, .bool false, .bool false, u_ 95, u_ 96, u_ 97, .bool false, .bool false, u_ 100, u_ 101, u_ 102, .bool false, .bool false, u_ 105, u_ 106, u_ 107, u_ 108, .bool true, .bool true, .pointer (some ⟨gr, 0, none⟩), .int .u64 (((C.take 4 p.2).1 : Int)), .int .i64 (((C.take 4 p.2).1 : Int)), .pointer (some ⟨gr, 0, none⟩), .int .i64 ((C.left (C.take 4 p.2).2 : Nat)), .int .i64 ((T.dn p.2 : Int)), u_ 117, u_ 118, u_ 119, u_ 120, u_ 121, u_ 122, u_ 123, u_ 124, u_ 125, u_ 126, u_ 127, u_ 128, undef, undef, undef, undef, undef, undef, undef, undef, undef, undef, undef, undef, undef, undef, undef], []⟩ ∧ Hid (zl44.heap[g2]? = some (.cells #[.int .i64 0, .int .u32 0, .int .i64 0, .int .i64 0, .bool false, .int .u32 0, .int .i64 0, .int .i64 0, .int .i64 0, .int .i64 0, .slice none 0 0, .slice none 0 0, .int .i64 0, .int .i64 0, .int .i64 0, .int .u64 0, .bool false, .int .i64 0, .int .i64 0, .slice none 0 0, .slice none 0 0, .int .i64 0, .int .i64 0, .int .i64 0, .int .u64 0, .bool false, .int .i64 0, .string ByteArray.empty, .int .u64 0, .int .i64 0, .int .u64 0, .string ByteArray.empty, .int .i64 0, .slice none 0 0] 39 (0, 0))) ∧ Hid (zl44.heap[g5]? = some (.cells (({ m with dt := m.dt ++ (C.take 4 p.2).2.1.take j, D := D', dc := dc' } : Ms).cells).toArray 39 (0, 0))) ∧ Hid (zl44.heap[g8]? = some (Obj.stringIter (⟨(fieldsOf (rk l)).toArray⟩) (k + 1))) ∧ Hid (Below w.heap.size w zl44) ∧ Hid (RdrAt zl44 w.heap.size gr ((C.take 4 p.2).2.1.drop j, (C.take 4 p.2).2.2)) ∧ Hid (TabsAt w.heap.size zl44) ∧ Hid (OwnB zl44 w.heap.size (.slice D' (m.dt ++ (C.take 4 p.2).2.1.take j).length dc') (m.dt ++ (C.take 4 p.2).2.1.take j))) 0 (Nat.zero_le _) ?_ ?_
                ·exact ⟨m.D, m.dc, by kernel_rfl, Zv2, Zv5, Zi20, ee, (by exact rr), tt, O⟩
                clear Zv2 Zv5 Zi20 ee rr tt O
                intro j u_ alzl44 zl44 hkzl44 hszl44
                obtain ⟨D', dc', rfl, Zv2, Zv5, Zi20, ee, rr, tt, O⟩ := hszl44
                have Zv2 := Zv2.out
                have Zv5 := Zv5.out
                have Zi20 := Zi20.out
                have ee := ee.out
                have rr := rr.out
                have tt := tt.out
                have O := O.out
                refine wp_seq_k fun K46 hK46 => ?_
                refine wp_seq_k fun K47 hK47 => ?_
                refine wp_region_lit ?_
                with_reducible refine wv (.int .i64 (((T.dn p.2 : Int) - ((j : Nat) : Int)))) ?_
                try simp only [nP, nN, nA, n0, nS]
                obtain ⟨b48, hb48⟩ : ∃ d_ : Bool, (decide (((T.dn p.2 : Int) - ((j : Nat) : Int)) > 0)) = d_ := ⟨_, rfl⟩
                with_reducible refine wb (.bool b48) (.int .i64 (((T.dn p.2 : Int) - ((j : Nat) : Int)))) (.int .i64 0) 3 (run_gtrI hb48) ?_
                try simp only [nP, nN, nA, n0, nS]
                refine wpList_nil ?_
                refine hK47 _ _ ?_
                cases b48
                ·have pb48 : ¬ (((T.dn p.2 : Int) - ((j : Nat) : Int)) > 0) := of_decide_eq_false hb48
                 refine wp_cond_false (by kernel_rfl) ?_
                 refine wp_exit ?_
                 refine then_exit ?_
                 refine then_exit ?_
                 have ej : j = T.dn p.2 := by omega
                 subst ej
                 refine inBlock_here ?_
                 refine inBlock_normal ?_
                 refine inBlock_normal ?_
                 refine then_normal ?_
                 exact ⟨hkl, ({ m with dt := m.dt ++ (C.take 4 p.2).2.1.take (T.dn p.2), D := D', dc := dc' } : Ms), ({ p.1 with dt := p.1.dt ++ (dtake p.2).1 }, (dtake p.2).2), by kernel_rfl, Zv2, Zv5, Zi20, ee, rr, tt, O, (fun z_ _ => by show CmOk z_ z_.heap.size m.c ∧ TxOk z_ z_.heap.size m.t.rs m.t.ws m.t.A1 m.t.c1 m.t.A2 m.t.c2; rw [ec, et]; exact ⟨CmOk.zero, TxOk.zero⟩), (by show _ = _; rw [hw1, show c = 68 by omega, mtk_D]), { nk with }, { lk with dt := by rw [lk.dt]; rfl }, (fun h_ => ⟨ec, et, fun q_ => by omega⟩)⟩
                have pb48 : ((T.dn p.2 : Int) - ((j : Nat) : Int)) > 0 := of_decide_eq_true hb48
                refine wp_cond_true (by kernel_rfl) ?_
                refine wp_skip ?_
                refine hK46 _ _ ?_
                refine wp_seq_k fun K49 hK49 => ?_
                refine wp_block ?_
                have rr := RdrAt.drewS rr
                have tt := TabsAt.drewS tt
                have Zi20 : zl44.drew.heap[g8]? = some (Obj.stringIter (⟨(fieldsOf (rk l)).toArray⟩) (k + 1)) := Zi20
                have Zv2 : zl44.drew.heap[g2]? = some (.cells #[.int .i64 0, .int .u32 0, .int .i64 0, .int .i64 0, .bool false, .int .u32 0, .int .i64 0, .int .i64 0, .int .i64 0, .int .i64 0, .slice none 0 0, .slice none 0 0, .int .i64 0, .int .i64 0, .int .i64 0, .int .u64 0, .bool false, .int .i64 0, .int .i64 0, .slice none 0 0, .slice none 0 0, .int .i64 0, .int .i64 0, .int .i64 0, .int .u64 0, .bool false, .int .i64 0, .string ByteArray.empty, .int .u64 0, .int .i64 0, .int .u64 0, .string ByteArray.empty, .int .i64 0, .slice none 0 0] 39) := Zv2
                have Zv5 : zl44.drew.heap[g5]? = some (.cells (({ m with dt := m.dt ++ (C.take 4 p.2).2.1.take j, D := D', dc := dc' } : Ms).cells).toArray 39) := Zv5
                have O := World.ownsRow.drew O
                have ee := belowDrewS ee
                -- region 41
                with_reducible refine any_begin (fun z' => z'.heap[g2]? = some (.cells #[.int .i64 0, .int .u32 0, .int .i64 0, .int .i64 0, .bool false, .int .u32 0, .int .i64 0, .int .i64 0, .int .i64 0, .int .i64 0, .slice none 0 0, .slice none 0 0, .int .i64 0, .int .i64 0, .int .i64 0, .int .u64 0, .bool false, .int .i64 0, .int .i64 0, .slice none 0 0, .slice none 0 0, .int .i64 0, .int .i64 0, .int .i64 0, .int .u64 0, .bool false, .int .i64 0, .string ByteArray.empty, .int .u64 0, .int .i64 0, .int .u64 0, .string ByteArray.empty, .int .i64 0, .slice none 0 0] 39 (0, 0))) 9 #[false, false, false, false, false, false, false, false, false] Zv2 ?_ ?_
                ·intro c_ a_ d_ v_ w_ h_; cases d_ <;> exact h_
                generalize zl44.drew = z11 at Zv2 Zv5 O ee rr tt Zi20 ⊢
                with_reducible refine ha 0 (some 121) (.pointer (some ⟨g5, 33, none⟩)) #[true, false, false, false, false, false, false, false, false] (fun _ _ => by kernel_rfl) Zv2 ?_
                try simp only [nP, nN, nA, n0, nS]
                with_reducible refine ha 2 (some 123) (.pointer (some ⟨gr, 0, none⟩)) #[true, false, true, false, false, false, false, false, false] (fun _ _ => by kernel_rfl) Zv2 ?_
                try simp only [nP, nN, nA, n0, nS]
                with_reducible refine any2 1 3 ?_ ?_
                ·with_reducible refine st_l 1 (some 122) (.slice D' (m.dt ++ (C.take 4 p.2).2.1.take j).length dc') ⟨g5, 33, none⟩ #[true, true, true, false, false, false, false, false, false] (rowCell Zv5 (33) rfl) Tryd.underlying37 Zv2 ?_
                 try simp only [nP, nN, nA, n0, nS]
                 with_reducible refine any1 3 ?_
                 obtain ⟨hd_, hhd, hcall⟩ := take_j rr (hdn.2 (by omega)) (by have := hdn.1; omega)
                 with_reducible refine st_f 3 (some 124) 88 #[.pointer (some ⟨gr, 0, none⟩), .int .i64 1] #[true, true, true, true, false, false, false, false, false] (hcall) ?_
                 rintro e z12 ⟨rfl, rr_, g_⟩
                 refine ⟨_, rfl, ?_⟩
                 have Zv2 := heapG Zv2 g_ (by omega)
                 have Zv5 := heapG Zv5 g_ (by omega)
                 have Zi20 := heapG Zi20 g_ (by omega)
                 have O := ownRdr O rr g_
                 have ee := ee.grown g_ ee.size (fun i_ h_ => by injection h_ with h_; omega)
                 have tt := tt.grown g_ (by omega)
                 clear rr g_
                 have rr := rr_
                 clear rr_
                 refine ⟨Zv2, ?_⟩
                 try simp only [nP, nN, nA, n0, nS]
                 with_reducible refine ha 4 (some 125) (.int .u8 ((hd_.toNat : Int))) #[true, true, true, true, true, false, false, false, false] (fun _ _ => (okIntA ((wrap8b hd_) : IntKind.u8.wrap ((hd_.toNat : Int)) = (hd_.toNat : Int)) (by kernel_rfl))) Zv2 ?_
                 try simp only [nP, nN, nA, n0, nS]
                 with_reducible refine any1 5 ?_
                 with_reducible refine st_w 5 (some 126) (.slice (some ⟨z12.heap.size, 0, none⟩) 1 1) (z12.alloc (.cells #[.int .u8 ((hd_.toNat : Int))] 5)) #[true, true, true, true, true, true, false, false, false] ?_
                 have sz_g51 := ee.size
                 have lrr := rr.lt.1
                 have rr := rr.alloc (.cells #[.int .u8 ((hd_.toNat : Int))] 5)
                 have tt := tt.alloc (.cells #[.int .u8 ((hd_.toNat : Int))] 5)
                 have Zi20 := hpA Zi20 (.cells #[.int .u8 ((hd_.toNat : Int))] 5)
                 have lZv2 := (Array.getElem?_eq_some_iff.1 Zv2).1
                 have lZv5 := (Array.getElem?_eq_some_iff.1 Zv5).1
                 have sz_ := ee.size
                 have ne_O_Zs126 : ((.slice D' (m.dt ++ (C.take 4 p.2).2.1.take j).length dc') : Value).ownBlock ≠ some (z12.heap.size) := fun hb_ => by have hh_ := (O.lt _ hb_).2; omega
                 have Zv2 := hpA Zv2 (.cells #[.int .u8 ((hd_.toNat : Int))] 5)
                 have Zv5 := hpA Zv5 (.cells #[.int .u8 ((hd_.toNat : Int))] 5)
                 have O := O.alloc (.cells #[.int .u8 ((hd_.toNat : Int))] 5)
                 have ee := ee.alloc ee.size (.cells #[.int .u8 ((hd_.toNat : Int))] 5)
                 have Zs126 := hpN z12 (.cells #[.int .u8 ((hd_.toNat : Int))] 5) rfl
                 generalize z12.alloc (.cells #[.int .u8 ((hd_.toNat : Int))] 5) = z13 at Zv2 Zv5 Zs126 O ee rr tt Zi20 ⊢
                 obtain ⟨g51, hg_g51⟩ : ∃ g_, g_ = z12.heap.size := ⟨_, rfl⟩
                 have n_g51_Zv2 : g2 < g51 := by rw [hg_g51]; exact lZv2
                 have n_g51_Zv5 : g5 < g51 := by rw [hg_g51]; exact lZv5
                 have n_g51_rr : gr < g51 := by rw [hg_g51]; exact lrr
                 clear lrr
                 have hB_g51 : w.heap.size ≤ g51 := by rw [hg_g51]; exact sz_g51
                 rw [← hg_g51] at Zs126 ⊢
                 clear hg_g51 lZv2 lZv5
                 refine ⟨Zv2, ?_⟩
                 try simp only [nP, nN, nA, n0, nS]
                 with_reducible refine any1 6 ?_
                 have heL : m.dt ++ (C.take 4 p.2).2.1.take j ++ [hd_] = m.dt ++ (C.take 4 p.2).2.1.take (j + 1) := by rw [hhd, List.append_assoc]
                 refine st_a8 6 (some 127) (.tmp 122) (.tmp 126) #[true, true, true, true, true, true, true, false, false] O (slOne Zs126 rfl) (by have := hdn.1; rw [List.length_append, List.length_take]; omega) (by simp) ee.size ?_
                 intro v_ z14 O_ g_
                 clear Zs126
                 have Zv2 := heapKind O g_ (by decide) Zv2
                 have Zv5 := heapKind O g_ (by decide) Zv5
                 have Zi20 := heapIt O g_ Zi20
                 have rr := rdrOwn rr O g_
                 have tt := TabsAt.own tt O g_ (Nat.le_refl _)
                 have ee := ee.grown g_ ee.size (fun i_ h_ => (O.lt i_ h_).1)
                 clear g_ O
                 have O := O_
                 clear O_
                 rw [heL] at O
                 obtain ⟨D2, c2, e_, _, _, _⟩ := ownShape O
                 subst e_
                 refine ⟨Zv2, ?_⟩
                 try simp only [nP, nN, nA, n0, nS]
                 with_reducible refine ha 7 (some 128) (.pointer (some ⟨g5, 33, none⟩)) #[true, true, true, true, true, true, true, true, false] (fun _ _ => by kernel_rfl) Zv2 ?_
                 try simp only [nP, nN, nA, n0, nS]
                 with_reducible refine any1 8 ?_
                 with_reducible refine st_c 8 37 (g5) (33) (.slice D2 (m.dt ++ (C.take 4 p.2).2.1.take (j + 1)).length c2) ([.slice D2 (m.dt ++ (C.take 4 p.2).2.1.take (j + 1)).length c2]) #[true, true, true, true, true, true, true, true, true] (rowThere Zv5 (Nat.le_of_ble_eq_true (by kernel_rfl))) (by kernel_rfl) (by kernel_rfl) (all1 rfl) ?_
                 have rr := RdrAt.setN (k := g5) (by omega) (by omega) ([.slice D2 (m.dt ++ (C.take 4 p.2).2.1.take (j + 1)).length c2]) (33) z14 rr
                 have tt := TabsAt.setN (k := g5) (by omega) ([.slice D2 (m.dt ++ (C.take 4 p.2).2.1.take (j + 1)).length c2]) (33) z14 tt
                 have Zi20 := (setCells_heap (k := g5) (j := g8) (by omega) ([.slice D2 (m.dt ++ (C.take 4 p.2).2.1.take (j + 1)).length c2]) (33) z14).trans Zi20
                 have N_ : (z14.setCells (g5) (33) ([.slice D2 (m.dt ++ (C.take 4 p.2).2.1.take (j + 1)).length c2])).heap[g5]? = some (.cells (({ m with dt := m.dt ++ (C.take 4 p.2).2.1.take (j + 1), D := D2, dc := c2 } : Ms).cells).toArray 39) := hpC ([.slice D2 (m.dt ++ (C.take 4 p.2).2.1.take (j + 1)).length c2]) (33) _ z14 Zv5
                 have O := ogOwnC O (ogKind O Zv5 (by decide)) ([.slice D2 (m.dt ++ (C.take 4 p.2).2.1.take (j + 1)).length c2]) (33)
                 have ee := belowC (g := g5) (by omega) ([.slice D2 (m.dt ++ (C.take 4 p.2).2.1.take (j + 1)).length c2]) (33) z14 ee
                 have Zv2 := hpCo (g' := g5) (by omega) ([.slice D2 (m.dt ++ (C.take 4 p.2).2.1.take (j + 1)).length c2]) (33) z14 Zv2
                 clear Zv5
                 have Zv5 := N_
                 clear N_
                 skip
                 generalize z14.setCells (g5) (33) ([.slice D2 (m.dt ++ (C.take 4 p.2).2.1.take (j + 1)).length c2]) = z15 at Zv2 Zv5 O ee rr tt Zi20 ⊢
                 refine ⟨Zv2, ?_⟩
                 try simp only [nP, nN, nA, n0, nS]
                 with_reducible refine any_end ?_
                 refine inBlock_normal ?_
                 refine hK49 _ _ ?_
                 refine wp_region_lit ?_
                 with_reducible refine wv (.int .i64 (((T.dn p.2 : Int) - ((j : Nat) : Int)))) ?_
                 try simp only [nP, nN, nA, n0, nS]
                 with_reducible refine wq (.int .i64 (((T.dn p.2 : Int) - (((j + 1) : Nat) : Int)))) (okIntP ((by rw [IntKind.wrap_i64]; have := dn_bound p.2; omega) : IntKind.i64.wrap (((T.dn p.2 : Int) - ((j : Nat) : Int)) - 1) = ((T.dn p.2 : Int) - (((j + 1) : Nat) : Int))) (by kernel_rfl)) ?_
                 try simp only [nP, nN, nA, n0, nS]
                 with_reducible refine wv (.int .i64 (((T.dn p.2 : Int) - (((j + 1) : Nat) : Int)))) ?_
                 try simp only [nP, nN, nA, n0, nS]
                 refine wpList_nil ?_
                 refine then_normal ?_
                 exact ⟨(by omega), D2, c2, by kernel_rfl, Zv2, Zv5, Zi20, ee, rr, tt, O⟩
                ·obtain ⟨hd_, hhd, hcall⟩ := take_j rr (hdn.2 (by omega)) (by have := hdn.1; omega)
                 with_reducible refine st_f 3 (some 124) 88 #[.pointer (some ⟨gr, 0, none⟩), .int .i64 1] #[true, false, true, true, false, false, false, false, false] (hcall) ?_
                 rintro e z12 ⟨rfl, rr_, g_⟩
                 refine ⟨_, rfl, ?_⟩
                 have Zv2 := heapG Zv2 g_ (by omega)
                 have Zv5 := heapG Zv5 g_ (by omega)
                 have Zi20 := heapG Zi20 g_ (by omega)
                 have O := ownRdr O rr g_
                 have ee := ee.grown g_ ee.size (fun i_ h_ => by injection h_ with h_; omega)
                 have tt := tt.grown g_ (by omega)
                 clear rr g_
                 have rr := rr_
                 clear rr_
                 refine ⟨Zv2, ?_⟩
                 try simp only [nP, nN, nA, n0, nS]
                 with_reducible refine ha 4 (some 125) (.int .u8 ((hd_.toNat : Int))) #[true, false, true, true, true, false, false, false, false] (fun _ _ => (okIntA ((wrap8b hd_) : IntKind.u8.wrap ((hd_.toNat : Int)) = (hd_.toNat : Int)) (by kernel_rfl))) Zv2 ?_
                 try simp only [nP, nN, nA, n0, nS]
                 with_reducible refine any2 1 5 ?_ ?_
                 ·with_reducible refine st_l 1 (some 122) (.slice D' (m.dt ++ (C.take 4 p.2).2.1.take j).length dc') ⟨g5, 33, none⟩ #[true, true, true, true, true, false, false, false, false] (rowCell Zv5 (33) rfl) Tryd.underlying37 Zv2 ?_
                  try simp only [nP, nN, nA, n0, nS]
                  with_reducible refine any1 5 ?_
                  with_reducible refine st_w 5 (some 126) (.slice (some ⟨z12.heap.size, 0, none⟩) 1 1) (z12.alloc (.cells #[.int .u8 ((hd_.toNat : Int))] 5)) #[true, true, true, true, true, true, false, false, false] ?_
                  have sz_g52 := ee.size
                  have lrr := rr.lt.1
                  have rr := rr.alloc (.cells #[.int .u8 ((hd_.toNat : Int))] 5)
                  have tt := tt.alloc (.cells #[.int .u8 ((hd_.toNat : Int))] 5)
                  have Zi20 := hpA Zi20 (.cells #[.int .u8 ((hd_.toNat : Int))] 5)
                  have lZv2 := (Array.getElem?_eq_some_iff.1 Zv2).1
                  have lZv5 := (Array.getElem?_eq_some_iff.1 Zv5).1
                  have sz_ := ee.size
                  have ne_O_Zs126 : ((.slice D' (m.dt ++ (C.take 4 p.2).2.1.take j).length dc') : Value).ownBlock ≠ some (z12.heap.size) := fun hb_ => by have hh_ := (O.lt _ hb_).2; omega
                  have Zv2 := hpA Zv2 (.cells #[.int .u8 ((hd_.toNat : Int))] 5)
                  have Zv5 := hpA Zv5 (.cells #[.int .u8 ((hd_.toNat : Int))] 5)
                  have O := O.alloc (.cells #[.int .u8 ((hd_.toNat : Int))] 5)
                  have ee := ee.alloc ee.size (.cells #[.int .u8 ((hd_.toNat : Int))] 5)
                  have Zs126 := hpN z12 (.cells #[.int .u8 ((hd_.toNat : Int))] 5) rfl
                  generalize z12.alloc (.cells #[.int .u8 ((hd_.toNat : Int))] 5) = z13 at Zv2 Zv5 Zs126 O ee rr tt Zi20 ⊢
                  obtain ⟨g52, hg_g52⟩ : ∃ g_, g_ = z12.heap.size := ⟨_, rfl⟩
                  have n_g52_Zv2 : g2 < g52 := by rw [hg_g52]; exact lZv2
                  have n_g52_Zv5 : g5 < g52 := by rw [hg_g52]; exact lZv5
                  have n_g52_rr : gr < g52 := by rw [hg_g52]; exact lrr
                  clear lrr
                  have hB_g52 : w.heap.size ≤ g52 := by rw [hg_g52]; exact sz_g52
                  rw [← hg_g52] at Zs126 ⊢
                  clear hg_g52 lZv2 lZv5
                  refine ⟨Zv2, ?_⟩
                  try simp only [nP, nN, nA, n0, nS]
                  with_reducible refine any1 6 ?_
                  have heL : m.dt ++ (C.take 4 p.2).2.1.take j ++ [hd_] = m.dt ++ (C.take 4 p.2).2.1.take (j + 1) := by rw [hhd, List.append_assoc]
                  refine st_a8 6 (some 127) (.tmp 122) (.tmp 126) #[true, true, true, true, true, true, true, false, false] O (slOne Zs126 rfl) (by have := hdn.1; rw [List.length_append, List.length_take]; omega) (by simp) ee.size ?_
                  intro v_ z14 O_ g_
                  clear Zs126
                  have Zv2 := heapKind O g_ (by decide) Zv2
                  have Zv5 := heapKind O g_ (by decide) Zv5
                  have Zi20 := heapIt O g_ Zi20
                  have rr := rdrOwn rr O g_
                  have tt := TabsAt.own tt O g_ (Nat.le_refl _)
                  have ee := ee.grown g_ ee.size (fun i_ h_ => (O.lt i_ h_).1)
                  clear g_ O
                  have O := O_
                  clear O_
                  rw [heL] at O
                  obtain ⟨D2, c2, e_, _, _, _⟩ := ownShape O
                  subst e_
                  refine ⟨Zv2, ?_⟩
                  try simp only [nP, nN, nA, n0, nS]
                  with_reducible refine ha 7 (some 128) (.pointer (some ⟨g5, 33, none⟩)) #[true, true, true, true, true, true, true, true, false] (fun _ _ => by kernel_rfl) Zv2 ?_
                  try simp only [nP, nN, nA, n0, nS]
                  with_reducible refine any1 8 ?_
                  with_reducible refine st_c 8 37 (g5) (33) (.slice D2 (m.dt ++ (C.take 4 p.2).2.1.take (j + 1)).length c2) ([.slice D2 (m.dt ++ (C.take 4 p.2).2.1.take (j + 1)).length c2]) #[true, true, true, true, true, true, true, true, true] (rowThere Zv5 (Nat.le_of_ble_eq_true (by kernel_rfl))) (by kernel_rfl) (by kernel_rfl) (all1 rfl) ?_
                  have rr := RdrAt.setN (k := g5) (by omega) (by omega) ([.slice D2 (m.dt ++ (C.take 4 p.2).2.1.take (j + 1)).length c2]) (33) z14 rr
                  have tt := TabsAt.setN (k := g5) (by omega) ([.slice D2 (m.dt ++ (C.take 4 p.2).2.1.take (j + 1)).length c2]) (33) z14 tt
                  have Zi20 := (setCells_heap (k := g5) (j := g8) (by omega) ([.slice D2 (m.dt ++ (C.take 4 p.2).2.1.take (j + 1)).length c2]) (33) z14).trans Zi20
                  have N_ : (z14.setCells (g5) (33) ([.slice D2 (m.dt ++ (C.take 4 p.2).2.1.take (j + 1)).length c2])).heap[g5]? = some (.cells (({ m with dt := m.dt ++ (C.take 4 p.2).2.1.take (j + 1), D := D2, dc := c2 } : Ms).cells).toArray 39) := hpC ([.slice D2 (m.dt ++ (C.take 4 p.2).2.1.take (j + 1)).length c2]) (33) _ z14 Zv5
                  have O := ogOwnC O (ogKind O Zv5 (by decide)) ([.slice D2 (m.dt ++ (C.take 4 p.2).2.1.take (j + 1)).length c2]) (33)
                  have ee := belowC (g := g5) (by omega) ([.slice D2 (m.dt ++ (C.take 4 p.2).2.1.take (j + 1)).length c2]) (33) z14 ee
                  have Zv2 := hpCo (g' := g5) (by omega) ([.slice D2 (m.dt ++ (C.take 4 p.2).2.1.take (j + 1)).length c2]) (33) z14 Zv2
                  clear Zv5
                  have Zv5 := N_
                  clear N_
                  skip
                  generalize z14.setCells (g5) (33) ([.slice D2 (m.dt ++ (C.take 4 p.2).2.1.take (j + 1)).length c2]) = z15 at Zv2 Zv5 O ee rr tt Zi20 ⊢
                  refine ⟨Zv2, ?_⟩
                  try simp only [nP, nN, nA, n0, nS]
                  with_reducible refine any_end ?_
                  refine inBlock_normal ?_
                  refine hK49 _ _ ?_
                  refine wp_region_lit ?_
                  with_reducible refine wv (.int .i64 (((T.dn p.2 : Int) - ((j : Nat) : Int)))) ?_
                  try simp only [nP, nN, nA, n0, nS]
                  with_reducible refine wq (.int .i64 (((T.dn p.2 : Int) - (((j + 1) : Nat) : Int)))) (okIntP ((by rw [IntKind.wrap_i64]; have := dn_bound p.2; omega) : IntKind.i64.wrap (((T.dn p.2 : Int) - ((j : Nat) : Int)) - 1) = ((T.dn p.2 : Int) - (((j + 1) : Nat) : Int))) (by kernel_rfl)) ?_
                  try simp only [nP, nN, nA, n0, nS]
                  with_reducible refine wv (.int .i64 (((T.dn p.2 : Int) - (((j + 1) : Nat) : Int)))) ?_
                  try simp only [nP, nN, nA, n0, nS]
                  refine wpList_nil ?_
                  refine then_normal ?_
                  exact ⟨(by omega), D2, c2, by kernel_rfl, Zv2, Zv5, Zi20, ee, rr, tt, O⟩
                 ·with_reducible refine st_w 5 (some 126) (.slice (some ⟨z12.heap.size, 0, none⟩) 1 1) (z12.alloc (.cells #[.int .u8 ((hd_.toNat : Int))] 5)) #[true, false, true, true, true, true, false, false, false] ?_
                  have sz_g53 := ee.size
                  have lrr := rr.lt.1
                  have rr := rr.alloc (.cells #[.int .u8 ((hd_.toNat : Int))] 5)
                  have tt := tt.alloc (.cells #[.int .u8 ((hd_.toNat : Int))] 5)
                  have Zi20 := hpA Zi20 (.cells #[.int .u8 ((hd_.toNat : Int))] 5)
                  have lZv2 := (Array.getElem?_eq_some_iff.1 Zv2).1
                  have lZv5 := (Array.getElem?_eq_some_iff.1 Zv5).1
                  have sz_ := ee.size
                  have ne_O_Zs126 : ((.slice D' (m.dt ++ (C.take 4 p.2).2.1.take j).length dc') : Value).ownBlock ≠ some (z12.heap.size) := fun hb_ => by have hh_ := (O.lt _ hb_).2; omega
                  have Zv2 := hpA Zv2 (.cells #[.int .u8 ((hd_.toNat : Int))] 5)
                  have Zv5 := hpA Zv5 (.cells #[.int .u8 ((hd_.toNat : Int))] 5)
                  have O := O.alloc (.cells #[.int .u8 ((hd_.toNat : Int))] 5)
                  have ee := ee.alloc ee.size (.cells #[.int .u8 ((hd_.toNat : Int))] 5)
                  have Zs126 := hpN z12 (.cells #[.int .u8 ((hd_.toNat : Int))] 5) rfl
                  generalize z12.alloc (.cells #[.int .u8 ((hd_.toNat : Int))] 5) = z13 at Zv2 Zv5 Zs126 O ee rr tt Zi20 ⊢
                  obtain ⟨g53, hg_g53⟩ : ∃ g_, g_ = z12.heap.size := ⟨_, rfl⟩
                  have n_g53_Zv2 : g2 < g53 := by rw [hg_g53]; exact lZv2
                  have n_g53_Zv5 : g5 < g53 := by rw [hg_g53]; exact lZv5
                  have n_g53_rr : gr < g53 := by rw [hg_g53]; exact lrr
                  clear lrr
                  have hB_g53 : w.heap.size ≤ g53 := by rw [hg_g53]; exact sz_g53
                  rw [← hg_g53] at Zs126 ⊢
                  clear hg_g53 lZv2 lZv5
                  refine ⟨Zv2, ?_⟩
                  try simp only [nP, nN, nA, n0, nS]
                  with_reducible refine any1 1 ?_
                  with_reducible refine st_l 1 (some 122) (.slice D' (m.dt ++ (C.take 4 p.2).2.1.take j).length dc') ⟨g5, 33, none⟩ #[true, true, true, true, true, true, false, false, false] (rowCell Zv5 (33) rfl) Tryd.underlying37 Zv2 ?_
                  try simp only [nP, nN, nA, n0, nS]
                  with_reducible refine any1 6 ?_
                  have heL : m.dt ++ (C.take 4 p.2).2.1.take j ++ [hd_] = m.dt ++ (C.take 4 p.2).2.1.take (j + 1) := by rw [hhd, List.append_assoc]
                  refine st_a8 6 (some 127) (.tmp 122) (.tmp 126) #[true, true, true, true, true, true, true, false, false] O (slOne Zs126 rfl) (by have := hdn.1; rw [List.length_append, List.length_take]; omega) (by simp) ee.size ?_
                  intro v_ z14 O_ g_
                  clear Zs126
                  have Zv2 := heapKind O g_ (by decide) Zv2
                  have Zv5 := heapKind O g_ (by decide) Zv5
                  have Zi20 := heapIt O g_ Zi20
                  have rr := rdrOwn rr O g_
                  have tt := TabsAt.own tt O g_ (Nat.le_refl _)
                  have ee := ee.grown g_ ee.size (fun i_ h_ => (O.lt i_ h_).1)
                  clear g_ O
                  have O := O_
                  clear O_
                  rw [heL] at O
                  obtain ⟨D2, c2, e_, _, _, _⟩ := ownShape O
                  subst e_
                  refine ⟨Zv2, ?_⟩
                  try simp only [nP, nN, nA, n0, nS]
                  with_reducible refine ha 7 (some 128) (.pointer (some ⟨g5, 33, none⟩)) #[true, true, true, true, true, true, true, true, false] (fun _ _ => by kernel_rfl) Zv2 ?_
                  try simp only [nP, nN, nA, n0, nS]
                  with_reducible refine any1 8 ?_
                  with_reducible refine st_c 8 37 (g5) (33) (.slice D2 (m.dt ++ (C.take 4 p.2).2.1.take (j + 1)).length c2) ([.slice D2 (m.dt ++ (C.take 4 p.2).2.1.take (j + 1)).length c2]) #[true, true, true, true, true, true, true, true, true] (rowThere Zv5 (Nat.le_of_ble_eq_true (by kernel_rfl))) (by kernel_rfl) (by kernel_rfl) (all1 rfl) ?_
                  have rr := RdrAt.setN (k := g5) (by omega) (by omega) ([.slice D2 (m.dt ++ (C.take 4 p.2).2.1.take (j + 1)).length c2]) (33) z14 rr
                  have tt := TabsAt.setN (k := g5) (by omega) ([.slice D2 (m.dt ++ (C.take 4 p.2).2.1.take (j + 1)).length c2]) (33) z14 tt
                  have Zi20 := (setCells_heap (k := g5) (j := g8) (by omega) ([.slice D2 (m.dt ++ (C.take 4 p.2).2.1.take (j + 1)).length c2]) (33) z14).trans Zi20
                  have N_ : (z14.setCells (g5) (33) ([.slice D2 (m.dt ++ (C.take 4 p.2).2.1.take (j + 1)).length c2])).heap[g5]? = some (.cells (({ m with dt := m.dt ++ (C.take 4 p.2).2.1.take (j + 1), D := D2, dc := c2 } : Ms).cells).toArray 39) := hpC ([.slice D2 (m.dt ++ (C.take 4 p.2).2.1.take (j + 1)).length c2]) (33) _ z14 Zv5
                  have O := ogOwnC O (ogKind O Zv5 (by decide)) ([.slice D2 (m.dt ++ (C.take 4 p.2).2.1.take (j + 1)).length c2]) (33)
                  have ee := belowC (g := g5) (by omega) ([.slice D2 (m.dt ++ (C.take 4 p.2).2.1.take (j + 1)).length c2]) (33) z14 ee
                  have Zv2 := hpCo (g' := g5) (by omega) ([.slice D2 (m.dt ++ (C.take 4 p.2).2.1.take (j + 1)).length c2]) (33) z14 Zv2
                  clear Zv5
                  have Zv5 := N_
                  clear N_
                  skip
                  generalize z14.setCells (g5) (33) ([.slice D2 (m.dt ++ (C.take 4 p.2).2.1.take (j + 1)).length c2]) = z15 at Zv2 Zv5 O ee rr tt Zi20 ⊢
                  refine ⟨Zv2, ?_⟩
                  try simp only [nP, nN, nA, n0, nS]
                  with_reducible refine any_end ?_
                  refine inBlock_normal ?_
                  refine hK49 _ _ ?_
                  refine wp_region_lit ?_
                  with_reducible refine wv (.int .i64 (((T.dn p.2 : Int) - ((j : Nat) : Int)))) ?_
                  try simp only [nP, nN, nA, n0, nS]
                  with_reducible refine wq (.int .i64 (((T.dn p.2 : Int) - (((j + 1) : Nat) : Int)))) (okIntP ((by rw [IntKind.wrap_i64]; have := dn_bound p.2; omega) : IntKind.i64.wrap (((T.dn p.2 : Int) - ((j : Nat) : Int)) - 1) = ((T.dn p.2 : Int) - (((j + 1) : Nat) : Int))) (by kernel_rfl)) ?_
                  try simp only [nP, nN, nA, n0, nS]
                  with_reducible refine wv (.int .i64 (((T.dn p.2 : Int) - (((j + 1) : Nat) : Int)))) ?_
                  try simp only [nP, nN, nA, n0, nS]
                  refine wpList_nil ?_
                  refine then_normal ?_
                  exact ⟨(by omega), D2, c2, by kernel_rfl, Zv2, Zv5, Zi20, ee, rr, tt, O⟩
               have pb41 : (c : Int) = 69 := of_decide_eq_true hb41
               have eb41 : (c : Int) = 69 := of_decide_eq_true hb41
               refine wp_cond_true (by kernel_rfl) ?_
               refine wp_region_lit ?_
               with_reducible refine wv (.pointer (some ⟨gr, 0, none⟩)) ?_
               try simp only [nP, nN, nA, n0, nS]
               with_reducible refine wc 88 #[.pointer (some ⟨gr, 0, none⟩), .int .i64 1] (take_any w.heap.size gr 1 p.2 z8 rr) ?_
               rintro e z9 ⟨rfl, rr_, g_⟩
               refine ⟨_, rfl, ?_⟩
               have Zv2 := heapG Zv2 g_ (by omega)
               have Zv5 := heapG Zv5 g_ (by omega)
               have Zi20 := heapG Zi20 g_ (by omega)
               have O := ownRdr O rr g_
               have ee := ee.grown g_ ee.size (fun i_ h_ => by injection h_ with h_; omega)
               have tt := tt.grown g_ (by omega)
               have ck := ck.rdr g_
               clear rr g_
               have rr := rr_
               clear rr_
               try simp only [nP, nN, nA, n0, nS]
               with_reducible refine wq (.int .i64 (((C.take 1 p.2).1 : Int))) (okIntP ((w1 p.2) : IntKind.i64.wrap (((C.take 1 p.2).1 : Int)) = ((C.take 1 p.2).1 : Int)) (by kernel_rfl)) ?_
               try simp only [nP, nN, nA, n0, nS]
               with_reducible refine wv (.pointer (some ⟨g5, 32, none⟩)) ?_
               try simp only [nP, nN, nA, n0, nS]
               refine wpList_storeC 36 (g5) (32) (.int .i64 (((C.take 1 p.2).1 : Int))) ([.int .i64 (((C.take 1 p.2).1 : Int))]) (rowThere Zv5 (Nat.le_of_ble_eq_true (by kernel_rfl))) (by kernel_rfl) (by kernel_rfl) (all1 rfl) _ _ (by kernel_rfl) rfl (by kernel_rfl) (by kernel_rfl) ?_
               have rr := RdrAt.setN (k := g5) (by omega) (by omega) ([.int .i64 (((C.take 1 p.2).1 : Int))]) (32) z9 rr
               have tt := TabsAt.setN (k := g5) (by omega) ([.int .i64 (((C.take 1 p.2).1 : Int))]) (32) z9 tt
               have ck := ck.cells ([.int .i64 (((C.take 1 p.2).1 : Int))]) (32)
               have Zi20 := (setCells_heap (k := g5) (j := g8) (by omega) ([.int .i64 (((C.take 1 p.2).1 : Int))]) (32) z9).trans Zi20
               have N_ : (z9.setCells (g5) (32) ([.int .i64 (((C.take 1 p.2).1 : Int))])).heap[g5]? = some (.cells (({ m with er := ((C.take 1 p.2).1 : Int) } : Ms).cells).toArray 39) := hpC ([.int .i64 (((C.take 1 p.2).1 : Int))]) (32) _ z9 Zv5
               have O := ogOwnC O (ogKind O Zv5 (by decide)) ([.int .i64 (((C.take 1 p.2).1 : Int))]) (32)
               have ee := belowC (g := g5) (by omega) ([.int .i64 (((C.take 1 p.2).1 : Int))]) (32) z9 ee
               have Zv2 := hpCo (g' := g5) (by omega) ([.int .i64 (((C.take 1 p.2).1 : Int))]) (32) z9 Zv2
               clear Zv5
               have Zv5 := N_
               clear N_
               skip
               generalize z9.setCells (g5) (32) ([.int .i64 (((C.take 1 p.2).1 : Int))]) = z10 at Zv2 Zv5 O ee rr tt ck Zi20 ⊢
               try simp only [nP, nN, nA, n0, nS]
               refine wpList_nil ?_
               refine inBlock_normal ?_
               refine inBlock_normal ?_
               refine then_normal ?_
               exact ⟨hkl, ({ m with er := ((C.take 1 p.2).1 : Int) } : Ms), ({ p.1 with er := ((C.take 1 p.2).1 : Int) }, (C.take 1 p.2).2), by kernel_rfl, Zv2, Zv5, Zi20, ee, rr, tt, O, (ck.same rfl rfl), (by show _ = _; rw [hw1, show c = 69 by omega, mtk_E]), { nk with }, { lk with er := rfl }, (fun h_ => ⟨(jk h_).1, (jk h_).2.1, fun _ => (jk h_).2.2 (by omega)⟩)⟩
              have pb39 : (c : Int) = 88 := of_decide_eq_true hb39
              have eb39 : (c : Int) = 88 := of_decide_eq_true hb39
              refine wp_cond_true (by kernel_rfl) ?_
              refine wp_region_lit ?_
              with_reducible refine wv (.pointer (some ⟨gr, 0, none⟩)) ?_
              try simp only [nP, nN, nA, n0, nS]
              with_reducible refine wc 94 #[.pointer (some ⟨gr, 0, none⟩)] (vtake_w w.heap.size gr z8 p.2 rr tt) ?_
              rintro e z9 ⟨rfl, rr_, g_⟩
              refine ⟨_, rfl, ?_⟩
              have Zv2 := heapG Zv2 g_ (by omega)
              have Zv5 := heapG Zv5 g_ (by omega)
              have Zi20 := heapG Zi20 g_ (by omega)
              have O := ownRdr O rr g_
              have ee := ee.grown g_ ee.size (fun i_ h_ => by injection h_ with h_; omega)
              have tt := tt.grown g_ (by omega)
              have ck := ck.rdr g_
              clear rr g_
              have rr := rr_
              clear rr_
              try simp only [nP, nN, nA, n0, nS]
              with_reducible refine wv (.pointer (some ⟨g5, 29, none⟩)) ?_
              try simp only [nP, nN, nA, n0, nS]
              refine wpList_storeC 35 (g5) (29) (.agg ([.int .i64 ((V.take p.2).1.1 : Int), .int .u64 ((V.take p.2).1.2.1 : Int), .string ⟨(V.take p.2).1.2.2.toArray⟩]).toArray) ([.int .i64 ((V.take p.2).1.1 : Int), .int .u64 ((V.take p.2).1.2.1 : Int), .string ⟨(V.take p.2).1.2.2.toArray⟩]) (rowThere Zv5 (Nat.le_of_ble_eq_true (by kernel_rfl))) (by kernel_rfl) sizeVal (allOf (by kernel_rfl)) _ _ (by kernel_rfl) rfl (by kernel_rfl) (by kernel_rfl) ?_
              have rr := RdrAt.setN (k := g5) (by omega) (by omega) ([.int .i64 ((V.take p.2).1.1 : Int), .int .u64 ((V.take p.2).1.2.1 : Int), .string ⟨(V.take p.2).1.2.2.toArray⟩]) (29) z9 rr
              have tt := TabsAt.setN (k := g5) (by omega) ([.int .i64 ((V.take p.2).1.1 : Int), .int .u64 ((V.take p.2).1.2.1 : Int), .string ⟨(V.take p.2).1.2.2.toArray⟩]) (29) z9 tt
              have ck := ck.cells ([.int .i64 ((V.take p.2).1.1 : Int), .int .u64 ((V.take p.2).1.2.1 : Int), .string ⟨(V.take p.2).1.2.2.toArray⟩]) (29)
              have Zi20 := (setCells_heap (k := g5) (j := g8) (by omega) ([.int .i64 ((V.take p.2).1.1 : Int), .int .u64 ((V.take p.2).1.2.1 : Int), .string ⟨(V.take p.2).1.2.2.toArray⟩]) (29) z9).trans Zi20
              have N_ : (z9.setCells (g5) (29) ([.int .i64 ((V.take p.2).1.1 : Int), .int .u64 ((V.take p.2).1.2.1 : Int), .string ⟨(V.take p.2).1.2.2.toArray⟩])).heap[g5]? = some (.cells (({ m with vk := ((V.take p.2).1.1 : Int), vb := (V.take p.2).1.2.1, vt := ⟨(V.take p.2).1.2.2.toArray⟩ } : Ms).cells).toArray 39) := hpC ([.int .i64 ((V.take p.2).1.1 : Int), .int .u64 ((V.take p.2).1.2.1 : Int), .string ⟨(V.take p.2).1.2.2.toArray⟩]) (29) _ z9 Zv5
              have O := ogOwnC O (ogKind O Zv5 (by decide)) ([.int .i64 ((V.take p.2).1.1 : Int), .int .u64 ((V.take p.2).1.2.1 : Int), .string ⟨(V.take p.2).1.2.2.toArray⟩]) (29)
              have ee := belowC (g := g5) (by omega) ([.int .i64 ((V.take p.2).1.1 : Int), .int .u64 ((V.take p.2).1.2.1 : Int), .string ⟨(V.take p.2).1.2.2.toArray⟩]) (29) z9 ee
              have Zv2 := hpCo (g' := g5) (by omega) ([.int .i64 ((V.take p.2).1.1 : Int), .int .u64 ((V.take p.2).1.2.1 : Int), .string ⟨(V.take p.2).1.2.2.toArray⟩]) (29) z9 Zv2
              clear Zv5
              have Zv5 := N_
              clear N_
              skip
              generalize z9.setCells (g5) (29) ([.int .i64 ((V.take p.2).1.1 : Int), .int .u64 ((V.take p.2).1.2.1 : Int), .string ⟨(V.take p.2).1.2.2.toArray⟩]) = z10 at Zv2 Zv5 O ee rr tt ck Zi20 ⊢
              try simp only [nP, nN, nA, n0, nS]
              refine wpList_nil ?_
              refine inBlock_normal ?_
              refine inBlock_normal ?_
              refine then_normal ?_
              exact ⟨hkl, ({ m with vk := ((V.take p.2).1.1 : Int), vb := (V.take p.2).1.2.1, vt := ⟨(V.take p.2).1.2.2.toArray⟩ } : Ms), ({ p.1 with vk := ((V.take p.2).1.1 : Int), vb := (V.take p.2).1.2.1, vt := ⟨(V.take p.2).1.2.2.toArray⟩ }, (V.take p.2).2), by kernel_rfl, Zv2, Zv5, Zi20, ee, rr, tt, O, (ck.same rfl rfl), (by show _ = _; rw [hw1, show c = 88 by omega, mtk_X]), { nk with vb := (vtake_ok _).1, ts := sizeArr _ (vtake_ok _).2 }, { lk with vk := rfl, vb := rfl, vt := rfl }, (fun h_ => ⟨(jk h_).1, (jk h_).2.1, fun _ => (jk h_).2.2 (by omega)⟩)⟩
             have pb37 : (c : Int) = 86 := of_decide_eq_true hb37
             have eb37 : (c : Int) = 86 := of_decide_eq_true hb37
             refine wp_cond_true (by kernel_rfl) ?_
             refine wp_region_lit ?_
             with_reducible refine wv (.pointer (some ⟨gr, 0, none⟩)) ?_
             try simp only [nP, nN, nA, n0, nS]
             with_reducible refine wc 88 #[.pointer (some ⟨gr, 0, none⟩), .int .i64 8] (take_any w.heap.size gr 8 p.2 z8 rr) ?_
             rintro e z9 ⟨rfl, rr_, g_⟩
             refine ⟨_, rfl, ?_⟩
             have Zv2 := heapG Zv2 g_ (by omega)
             have Zv5 := heapG Zv5 g_ (by omega)
             have Zi20 := heapG Zi20 g_ (by omega)
             have O := ownRdr O rr g_
             have ee := ee.grown g_ ee.size (fun i_ h_ => by injection h_ with h_; omega)
             have tt := tt.grown g_ (by omega)
             have ck := ck.rdr g_
             clear rr g_
             have rr := rr_
             clear rr_
             try simp only [nP, nN, nA, n0, nS]
             with_reducible refine wv (.pointer (some ⟨g5, 28, none⟩)) ?_
             try simp only [nP, nN, nA, n0, nS]
             refine wpList_storeC 31 (g5) (28) (.int .u64 (((C.take 8 p.2).1 : Int))) ([.int .u64 (((C.take 8 p.2).1 : Int))]) (rowThere Zv5 (Nat.le_of_ble_eq_true (by kernel_rfl))) (by kernel_rfl) (by kernel_rfl) (all1 rfl) _ _ (by kernel_rfl) rfl (by kernel_rfl) (by kernel_rfl) ?_
             have rr := RdrAt.setN (k := g5) (by omega) (by omega) ([.int .u64 (((C.take 8 p.2).1 : Int))]) (28) z9 rr
             have tt := TabsAt.setN (k := g5) (by omega) ([.int .u64 (((C.take 8 p.2).1 : Int))]) (28) z9 tt
             have ck := ck.cells ([.int .u64 (((C.take 8 p.2).1 : Int))]) (28)
             have Zi20 := (setCells_heap (k := g5) (j := g8) (by omega) ([.int .u64 (((C.take 8 p.2).1 : Int))]) (28) z9).trans Zi20
             have N_ : (z9.setCells (g5) (28) ([.int .u64 (((C.take 8 p.2).1 : Int))])).heap[g5]? = some (.cells (({ m with ve := (C.take 8 p.2).1 } : Ms).cells).toArray 39) := hpC ([.int .u64 (((C.take 8 p.2).1 : Int))]) (28) _ z9 Zv5
             have O := ogOwnC O (ogKind O Zv5 (by decide)) ([.int .u64 (((C.take 8 p.2).1 : Int))]) (28)
             have ee := belowC (g := g5) (by omega) ([.int .u64 (((C.take 8 p.2).1 : Int))]) (28) z9 ee
             have Zv2 := hpCo (g' := g5) (by omega) ([.int .u64 (((C.take 8 p.2).1 : Int))]) (28) z9 Zv2
             clear Zv5
             have Zv5 := N_
             clear N_
             skip
             generalize z9.setCells (g5) (28) ([.int .u64 (((C.take 8 p.2).1 : Int))]) = z10 at Zv2 Zv5 O ee rr tt ck Zi20 ⊢
             try simp only [nP, nN, nA, n0, nS]
             refine wpList_nil ?_
             refine inBlock_normal ?_
             refine inBlock_normal ?_
             refine then_normal ?_
             exact ⟨hkl, ({ m with ve := (C.take 8 p.2).1 } : Ms), ({ p.1 with ve := (C.take 8 p.2).1 }, (C.take 8 p.2).2), by kernel_rfl, Zv2, Zv5, Zi20, ee, rr, tt, O, (ck.same rfl rfl), (by show _ = _; rw [hw1, show c = 86 by omega, mtk_V]), { nk with ve := t8 _ }, { lk with ve := rfl }, (fun h_ => ⟨(jk h_).1, (jk h_).2.1, fun _ => (jk h_).2.2 (by omega)⟩)⟩
            have pb35 : (c : Int) = 75 := of_decide_eq_true hb35
            have eb35 : (c : Int) = 75 := of_decide_eq_true hb35
            refine wp_cond_true (by kernel_rfl) ?_
            refine wp_region_lit ?_
            with_reducible refine wv (.pointer (some ⟨gr, 0, none⟩)) ?_
            try simp only [nP, nN, nA, n0, nS]
            with_reducible refine wc 93 #[.pointer (some ⟨gr, 0, none⟩), .int .i64 12] (text_any w.heap.size gr 12 p.2 z8 rr) ?_
            rintro e z9 ⟨rfl, rr_, g_⟩
            refine ⟨_, rfl, ?_⟩
            have Zv2 := heapG Zv2 g_ (by omega)
            have Zv5 := heapG Zv5 g_ (by omega)
            have Zi20 := heapG Zi20 g_ (by omega)
            have O := ownRdr O rr g_
            have ee := ee.grown g_ ee.size (fun i_ h_ => by injection h_ with h_; omega)
            have tt := tt.grown g_ (by omega)
            have ck := ck.rdr g_
            clear rr g_
            have rr := rr_
            clear rr_
            try simp only [nP, nN, nA, n0, nS]
            with_reducible refine wv (.pointer (some ⟨g5, 27, none⟩)) ?_
            try simp only [nP, nN, nA, n0, nS]
            refine wpList_storeC 9 (g5) (27) (.string (⟨(C.text 12 p.2).1.toArray⟩)) ([.string (⟨(C.text 12 p.2).1.toArray⟩)]) (rowThere Zv5 (Nat.le_of_ble_eq_true (by kernel_rfl))) (by kernel_rfl) (by kernel_rfl) (all1 rfl) _ _ (by kernel_rfl) rfl (by kernel_rfl) (by kernel_rfl) ?_
            have rr := RdrAt.setN (k := g5) (by omega) (by omega) ([.string (⟨(C.text 12 p.2).1.toArray⟩)]) (27) z9 rr
            have tt := TabsAt.setN (k := g5) (by omega) ([.string (⟨(C.text 12 p.2).1.toArray⟩)]) (27) z9 tt
            have ck := ck.cells ([.string (⟨(C.text 12 p.2).1.toArray⟩)]) (27)
            have Zi20 := (setCells_heap (k := g5) (j := g8) (by omega) ([.string (⟨(C.text 12 p.2).1.toArray⟩)]) (27) z9).trans Zi20
            have N_ : (z9.setCells (g5) (27) ([.string (⟨(C.text 12 p.2).1.toArray⟩)])).heap[g5]? = some (.cells (({ m with ky := ⟨(C.text 12 p.2).1.toArray⟩ } : Ms).cells).toArray 39) := hpC ([.string (⟨(C.text 12 p.2).1.toArray⟩)]) (27) _ z9 Zv5
            have O := ogOwnC O (ogKind O Zv5 (by decide)) ([.string (⟨(C.text 12 p.2).1.toArray⟩)]) (27)
            have ee := belowC (g := g5) (by omega) ([.string (⟨(C.text 12 p.2).1.toArray⟩)]) (27) z9 ee
            have Zv2 := hpCo (g' := g5) (by omega) ([.string (⟨(C.text 12 p.2).1.toArray⟩)]) (27) z9 Zv2
            clear Zv5
            have Zv5 := N_
            clear N_
            skip
            generalize z9.setCells (g5) (27) ([.string (⟨(C.text 12 p.2).1.toArray⟩)]) = z10 at Zv2 Zv5 O ee rr tt ck Zi20 ⊢
            try simp only [nP, nN, nA, n0, nS]
            refine wpList_nil ?_
            refine inBlock_normal ?_
            refine inBlock_normal ?_
            refine then_normal ?_
            exact ⟨hkl, ({ m with ky := ⟨(C.text 12 p.2).1.toArray⟩ } : Ms), ({ p.1 with ky := ⟨(C.text 12 p.2).1.toArray⟩ }, (C.text 12 p.2).2), by kernel_rfl, Zv2, Zv5, Zi20, ee, rr, tt, O, (ck.same rfl rfl), (by show _ = _; rw [hw1, show c = 75 by omega, mtk_K]), { nk with ks := sizeArr _ (text_len 12 _) }, { lk with ky := rfl }, (fun h_ => ⟨(jk h_).1, (jk h_).2.1, fun _ => (jk h_).2.2 (by omega)⟩)⟩
           have pb33 : (c : Int) = 78 := of_decide_eq_true hb33
           have eb33 : (c : Int) = 78 := of_decide_eq_true hb33
           refine wp_cond_true (by kernel_rfl) ?_
           refine wp_region_lit ?_
           with_reducible refine wv (.pointer (some ⟨gr, 0, none⟩)) ?_
           try simp only [nP, nN, nA, n0, nS]
           with_reducible refine wc 88 #[.pointer (some ⟨gr, 0, none⟩), .int .i64 4] (take_any w.heap.size gr 4 p.2 z8 rr) ?_
           rintro e z9 ⟨rfl, rr_, g_⟩
           refine ⟨_, rfl, ?_⟩
           have Zv2 := heapG Zv2 g_ (by omega)
           have Zv5 := heapG Zv5 g_ (by omega)
           have Zi20 := heapG Zi20 g_ (by omega)
           have O := ownRdr O rr g_
           have ee := ee.grown g_ ee.size (fun i_ h_ => by injection h_ with h_; omega)
           have tt := tt.grown g_ (by omega)
           have ck := ck.rdr g_
           clear rr g_
           have rr := rr_
           clear rr_
           try simp only [nP, nN, nA, n0, nS]
           with_reducible refine wq (.int .i64 (((C.take 4 p.2).1 : Int))) (okIntP ((w4 p.2) : IntKind.i64.wrap (((C.take 4 p.2).1 : Int)) = ((C.take 4 p.2).1 : Int)) (by kernel_rfl)) ?_
           try simp only [nP, nN, nA, n0, nS]
           with_reducible refine wv (.pointer (some ⟨g5, 26, none⟩)) ?_
           try simp only [nP, nN, nA, n0, nS]
           refine wpList_storeC 3 (g5) (26) (.int .i64 (((C.take 4 p.2).1 : Int))) ([.int .i64 (((C.take 4 p.2).1 : Int))]) (rowThere Zv5 (Nat.le_of_ble_eq_true (by kernel_rfl))) (by kernel_rfl) (by kernel_rfl) (all1 rfl) _ _ (by kernel_rfl) rfl (by kernel_rfl) (by kernel_rfl) ?_
           have rr := RdrAt.setN (k := g5) (by omega) (by omega) ([.int .i64 (((C.take 4 p.2).1 : Int))]) (26) z9 rr
           have tt := TabsAt.setN (k := g5) (by omega) ([.int .i64 (((C.take 4 p.2).1 : Int))]) (26) z9 tt
           have ck := ck.cells ([.int .i64 (((C.take 4 p.2).1 : Int))]) (26)
           have Zi20 := (setCells_heap (k := g5) (j := g8) (by omega) ([.int .i64 (((C.take 4 p.2).1 : Int))]) (26) z9).trans Zi20
           have N_ : (z9.setCells (g5) (26) ([.int .i64 (((C.take 4 p.2).1 : Int))])).heap[g5]? = some (.cells (({ m with nu := ((C.take 4 p.2).1 : Int) } : Ms).cells).toArray 39) := hpC ([.int .i64 (((C.take 4 p.2).1 : Int))]) (26) _ z9 Zv5
           have O := ogOwnC O (ogKind O Zv5 (by decide)) ([.int .i64 (((C.take 4 p.2).1 : Int))]) (26)
           have ee := belowC (g := g5) (by omega) ([.int .i64 (((C.take 4 p.2).1 : Int))]) (26) z9 ee
           have Zv2 := hpCo (g' := g5) (by omega) ([.int .i64 (((C.take 4 p.2).1 : Int))]) (26) z9 Zv2
           clear Zv5
           have Zv5 := N_
           clear N_
           skip
           generalize z9.setCells (g5) (26) ([.int .i64 (((C.take 4 p.2).1 : Int))]) = z10 at Zv2 Zv5 O ee rr tt ck Zi20 ⊢
           try simp only [nP, nN, nA, n0, nS]
           refine wpList_nil ?_
           refine inBlock_normal ?_
           refine inBlock_normal ?_
           refine then_normal ?_
           exact ⟨hkl, ({ m with nu := ((C.take 4 p.2).1 : Int) } : Ms), ({ p.1 with nu := ((C.take 4 p.2).1 : Int) }, (C.take 4 p.2).2), by kernel_rfl, Zv2, Zv5, Zi20, ee, rr, tt, O, (ck.same rfl rfl), (by show _ = _; rw [hw1, show c = 78 by omega, mtk_N]), { nk with }, { lk with nu := rfl }, (fun h_ => ⟨(jk h_).1, (jk h_).2.1, fun _ => (jk h_).2.2 (by omega)⟩)⟩
          have pb31 : (c : Int) = 89 := of_decide_eq_true hb31
          have eb31 : (c : Int) = 89 := of_decide_eq_true hb31
          refine wp_cond_true (by kernel_rfl) ?_
          refine wp_region_lit ?_
          with_reducible refine wv (.pointer (some ⟨gr, 0, none⟩)) ?_
          try simp only [nP, nN, nA, n0, nS]
          with_reducible refine wc 88 #[.pointer (some ⟨gr, 0, none⟩), .int .i64 1] (take_any w.heap.size gr 1 p.2 z8 rr) ?_
          rintro e z9 ⟨rfl, rr_, g_⟩
          refine ⟨_, rfl, ?_⟩
          have Zv2 := heapG Zv2 g_ (by omega)
          have Zv5 := heapG Zv5 g_ (by omega)
          have Zi20 := heapG Zi20 g_ (by omega)
          have O := ownRdr O rr g_
          have ee := ee.grown g_ ee.size (fun i_ h_ => by injection h_ with h_; omega)
          have tt := tt.grown g_ (by omega)
          have ck := ck.rdr g_
          clear rr g_
          have rr := rr_
          clear rr_
          try simp only [nP, nN, nA, n0, nS]
          obtain ⟨b54, hb54⟩ : ∃ d_ : Bool, (decide (((C.take 1 p.2).1 : Int) = 1)) = d_ := ⟨_, rfl⟩
          with_reducible refine wb (.bool b54) (.int .u64 (((C.take 1 p.2).1 : Int))) (.int .u64 1) 31 (run_eqlI hb54) ?_
          try simp only [nP, nN, nA, n0, nS]
          with_reducible refine wv (.pointer (some ⟨g5, 25, none⟩)) ?_
          try simp only [nP, nN, nA, n0, nS]
          refine wpList_storeC 4 (g5) (25) (.bool b54) ([.bool b54]) (rowThere Zv5 (Nat.le_of_ble_eq_true (by kernel_rfl))) (by kernel_rfl) (by kernel_rfl) (all1 rfl) _ _ (by kernel_rfl) rfl (by kernel_rfl) (by kernel_rfl) ?_
          have rr := RdrAt.setN (k := g5) (by omega) (by omega) ([.bool b54]) (25) z9 rr
          have tt := TabsAt.setN (k := g5) (by omega) ([.bool b54]) (25) z9 tt
          have ck := ck.cells ([.bool b54]) (25)
          have Zi20 := (setCells_heap (k := g5) (j := g8) (by omega) ([.bool b54]) (25) z9).trans Zi20
          have N_ : (z9.setCells (g5) (25) ([.bool b54])).heap[g5]? = some (.cells (({ m with ye := b54 } : Ms).cells).toArray 39) := hpC ([.bool b54]) (25) _ z9 Zv5
          have O := ogOwnC O (ogKind O Zv5 (by decide)) ([.bool b54]) (25)
          have ee := belowC (g := g5) (by omega) ([.bool b54]) (25) z9 ee
          have Zv2 := hpCo (g' := g5) (by omega) ([.bool b54]) (25) z9 Zv2
          clear Zv5
          have Zv5 := N_
          clear N_
          skip
          generalize z9.setCells (g5) (25) ([.bool b54]) = z10 at Zv2 Zv5 O ee rr tt ck Zi20 ⊢
          try simp only [nP, nN, nA, n0, nS]
          refine wpList_nil ?_
          refine inBlock_normal ?_
          refine inBlock_normal ?_
          refine then_normal ?_
          exact ⟨hkl, ({ m with ye := b54 } : Ms), ({ p.1 with ye := decide ((C.take 1 p.2).1 = 1) }, (C.take 1 p.2).2), by kernel_rfl, Zv2, Zv5, Zi20, ee, rr, tt, O, (ck.same rfl rfl), (by show _ = _; rw [hw1, show c = 89 by omega, mtk_Y]), { nk with }, { lk with ye := (by show b54 = decide ((C.take 1 p.2).1 = 1); rw [← hb54]; exact decide_eq_decide.2 (by omega)) }, (fun h_ => ⟨(jk h_).1, (jk h_).2.1, fun _ => (jk h_).2.2 (by omega)⟩)⟩
         have pb29 : (c : Int) = 80 := of_decide_eq_true hb29
         have eb29 : (c : Int) = 80 := of_decide_eq_true hb29
         refine wp_cond_true (by kernel_rfl) ?_
         refine wp_region_lit ?_
         with_reducible refine wv (.pointer (some ⟨gr, 0, none⟩)) ?_
         try simp only [nP, nN, nA, n0, nS]
         with_reducible refine wc 88 #[.pointer (some ⟨gr, 0, none⟩), .int .i64 8] (take_any w.heap.size gr 8 p.2 z8 rr) ?_
         rintro e z9 ⟨rfl, rr_, g_⟩
         refine ⟨_, rfl, ?_⟩
         have Zv2 := heapG Zv2 g_ (by omega)
         have Zv5 := heapG Zv5 g_ (by omega)
         have Zi20 := heapG Zi20 g_ (by omega)
         have O := ownRdr O rr g_
         have ee := ee.grown g_ ee.size (fun i_ h_ => by injection h_ with h_; omega)
         have tt := tt.grown g_ (by omega)
         have ck := ck.rdr g_
         clear rr g_
         have rr := rr_
         clear rr_
         try simp only [nP, nN, nA, n0, nS]
         with_reducible refine wv (.pointer (some ⟨g5, 24, none⟩)) ?_
         try simp only [nP, nN, nA, n0, nS]
         refine wpList_storeC 31 (g5) (24) (.int .u64 (((C.take 8 p.2).1 : Int))) ([.int .u64 (((C.take 8 p.2).1 : Int))]) (rowThere Zv5 (Nat.le_of_ble_eq_true (by kernel_rfl))) (by kernel_rfl) (by kernel_rfl) (all1 rfl) _ _ (by kernel_rfl) rfl (by kernel_rfl) (by kernel_rfl) ?_
         have rr := RdrAt.setN (k := g5) (by omega) (by omega) ([.int .u64 (((C.take 8 p.2).1 : Int))]) (24) z9 rr
         have tt := TabsAt.setN (k := g5) (by omega) ([.int .u64 (((C.take 8 p.2).1 : Int))]) (24) z9 tt
         have ck := ck.cells ([.int .u64 (((C.take 8 p.2).1 : Int))]) (24)
         have Zi20 := (setCells_heap (k := g5) (j := g8) (by omega) ([.int .u64 (((C.take 8 p.2).1 : Int))]) (24) z9).trans Zi20
         have N_ : (z9.setCells (g5) (24) ([.int .u64 (((C.take 8 p.2).1 : Int))])).heap[g5]? = some (.cells (({ m with st := (C.take 8 p.2).1 } : Ms).cells).toArray 39) := hpC ([.int .u64 (((C.take 8 p.2).1 : Int))]) (24) _ z9 Zv5
         have O := ogOwnC O (ogKind O Zv5 (by decide)) ([.int .u64 (((C.take 8 p.2).1 : Int))]) (24)
         have ee := belowC (g := g5) (by omega) ([.int .u64 (((C.take 8 p.2).1 : Int))]) (24) z9 ee
         have Zv2 := hpCo (g' := g5) (by omega) ([.int .u64 (((C.take 8 p.2).1 : Int))]) (24) z9 Zv2
         clear Zv5
         have Zv5 := N_
         clear N_
         skip
         generalize z9.setCells (g5) (24) ([.int .u64 (((C.take 8 p.2).1 : Int))]) = z10 at Zv2 Zv5 O ee rr tt ck Zi20 ⊢
         try simp only [nP, nN, nA, n0, nS]
         refine wpList_nil ?_
         refine inBlock_normal ?_
         refine inBlock_normal ?_
         refine then_normal ?_
         exact ⟨hkl, ({ m with st := (C.take 8 p.2).1 } : Ms), ({ p.1 with st := (C.take 8 p.2).1 }, (C.take 8 p.2).2), by kernel_rfl, Zv2, Zv5, Zi20, ee, rr, tt, O, (ck.same rfl rfl), (by show _ = _; rw [hw1, show c = 80 by omega, mtk_P]), { nk with st := t8 _ }, { lk with st := rfl }, (fun h_ => ⟨(jk h_).1, (jk h_).2.1, fun _ => (jk h_).2.2 (by omega)⟩)⟩
        have pb27 : (c : Int) = 71 := of_decide_eq_true hb27
        have eb27 : (c : Int) = 71 := of_decide_eq_true hb27
        refine wp_cond_true (by kernel_rfl) ?_
        refine wp_region_lit ?_
        with_reducible refine wv (.pointer (some ⟨gr, 0, none⟩)) ?_
        try simp only [nP, nN, nA, n0, nS]
        with_reducible refine wc 88 #[.pointer (some ⟨gr, 0, none⟩), .int .i64 1] (take_any w.heap.size gr 1 p.2 z8 rr) ?_
        rintro e z9 ⟨rfl, rr_, g_⟩
        refine ⟨_, rfl, ?_⟩
        have Zv2 := heapG Zv2 g_ (by omega)
        have Zv5 := heapG Zv5 g_ (by omega)
        have Zi20 := heapG Zi20 g_ (by omega)
        have O := ownRdr O rr g_
        have ee := ee.grown g_ ee.size (fun i_ h_ => by injection h_ with h_; omega)
        have tt := tt.grown g_ (by omega)
        have ck := ck.rdr g_
        clear rr g_
        have rr := rr_
        clear rr_
        try simp only [nP, nN, nA, n0, nS]
        with_reducible refine wq (.int .i64 (((C.take 1 p.2).1 : Int))) (okIntP ((w1 p.2) : IntKind.i64.wrap (((C.take 1 p.2).1 : Int)) = ((C.take 1 p.2).1 : Int)) (by kernel_rfl)) ?_
        try simp only [nP, nN, nA, n0, nS]
        with_reducible refine wv (.pointer (some ⟨g5, 23, none⟩)) ?_
        try simp only [nP, nN, nA, n0, nS]
        refine wpList_storeC 3 (g5) (23) (.int .i64 (((C.take 1 p.2).1 : Int))) ([.int .i64 (((C.take 1 p.2).1 : Int))]) (rowThere Zv5 (Nat.le_of_ble_eq_true (by kernel_rfl))) (by kernel_rfl) (by kernel_rfl) (all1 rfl) _ _ (by kernel_rfl) rfl (by kernel_rfl) (by kernel_rfl) ?_
        have rr := RdrAt.setN (k := g5) (by omega) (by omega) ([.int .i64 (((C.take 1 p.2).1 : Int))]) (23) z9 rr
        have tt := TabsAt.setN (k := g5) (by omega) ([.int .i64 (((C.take 1 p.2).1 : Int))]) (23) z9 tt
        have ck := ck.cells ([.int .i64 (((C.take 1 p.2).1 : Int))]) (23)
        have Zi20 := (setCells_heap (k := g5) (j := g8) (by omega) ([.int .i64 (((C.take 1 p.2).1 : Int))]) (23) z9).trans Zi20
        have N_ : (z9.setCells (g5) (23) ([.int .i64 (((C.take 1 p.2).1 : Int))])).heap[g5]? = some (.cells (({ m with g := ((C.take 1 p.2).1 : Int) } : Ms).cells).toArray 39) := hpC ([.int .i64 (((C.take 1 p.2).1 : Int))]) (23) _ z9 Zv5
        have O := ogOwnC O (ogKind O Zv5 (by decide)) ([.int .i64 (((C.take 1 p.2).1 : Int))]) (23)
        have ee := belowC (g := g5) (by omega) ([.int .i64 (((C.take 1 p.2).1 : Int))]) (23) z9 ee
        have Zv2 := hpCo (g' := g5) (by omega) ([.int .i64 (((C.take 1 p.2).1 : Int))]) (23) z9 Zv2
        clear Zv5
        have Zv5 := N_
        clear N_
        skip
        generalize z9.setCells (g5) (23) ([.int .i64 (((C.take 1 p.2).1 : Int))]) = z10 at Zv2 Zv5 O ee rr tt ck Zi20 ⊢
        try simp only [nP, nN, nA, n0, nS]
        refine wpList_nil ?_
        refine inBlock_normal ?_
        refine inBlock_normal ?_
        refine then_normal ?_
        exact ⟨hkl, ({ m with g := ((C.take 1 p.2).1 : Int) } : Ms), ({ p.1 with g := ((C.take 1 p.2).1 : Int) }, (C.take 1 p.2).2), by kernel_rfl, Zv2, Zv5, Zi20, ee, rr, tt, O, (ck.same rfl rfl), (by show _ = _; rw [hw1, show c = 71 by omega, mtk_G]), { nk with }, { lk with g := rfl }, (fun h_ => ⟨(jk h_).1, (jk h_).2.1, fun _ => (jk h_).2.2 (by omega)⟩)⟩
       have pb25 : (c : Int) = 73 := of_decide_eq_true hb25
       have eb25 : (c : Int) = 73 := of_decide_eq_true hb25
       refine wp_cond_true (by kernel_rfl) ?_
       refine wp_region_lit ?_
       with_reducible refine wv (.pointer (some ⟨gr, 0, none⟩)) ?_
       try simp only [nP, nN, nA, n0, nS]
       with_reducible refine wc 92 #[.pointer (some ⟨gr, 0, none⟩)] (takeid_any w.heap.size gr z8 p.2 rr) ?_
       rintro e z9 ⟨rfl, rr_, g_⟩
       refine ⟨_, rfl, ?_⟩
       have Zv2 := heapG Zv2 g_ (by omega)
       have Zv5 := heapG Zv5 g_ (by omega)
       have Zi20 := heapG Zi20 g_ (by omega)
       have O := ownRdr O rr g_
       have ee := ee.grown g_ ee.size (fun i_ h_ => by injection h_ with h_; omega)
       have tt := tt.grown g_ (by omega)
       have ck := ck.rdr g_
       clear rr g_
       have rr := rr_
       clear rr_
       try simp only [nP, nN, nA, n0, nS]
       with_reducible refine wv (.pointer (some ⟨g5, 21, none⟩)) ?_
       try simp only [nP, nN, nA, n0, nS]
       refine wpList_storeC 26 (g5) (21) (.agg ([.int .i64 ((idtake p.2).1.1 : Int), .int .i64 ((idtake p.2).1.2 : Int)]).toArray) ([.int .i64 ((idtake p.2).1.1 : Int), .int .i64 ((idtake p.2).1.2 : Int)]) (rowThere Zv5 (Nat.le_of_ble_eq_true (by kernel_rfl))) (by kernel_rfl) sizeId (allOf (by kernel_rfl)) _ _ (by kernel_rfl) rfl (by kernel_rfl) (by kernel_rfl) ?_
       have rr := RdrAt.setN (k := g5) (by omega) (by omega) ([.int .i64 ((idtake p.2).1.1 : Int), .int .i64 ((idtake p.2).1.2 : Int)]) (21) z9 rr
       have tt := TabsAt.setN (k := g5) (by omega) ([.int .i64 ((idtake p.2).1.1 : Int), .int .i64 ((idtake p.2).1.2 : Int)]) (21) z9 tt
       have ck := ck.cells ([.int .i64 ((idtake p.2).1.1 : Int), .int .i64 ((idtake p.2).1.2 : Int)]) (21)
       have Zi20 := (setCells_heap (k := g5) (j := g8) (by omega) ([.int .i64 ((idtake p.2).1.1 : Int), .int .i64 ((idtake p.2).1.2 : Int)]) (21) z9).trans Zi20
       have N_ : (z9.setCells (g5) (21) ([.int .i64 ((idtake p.2).1.1 : Int), .int .i64 ((idtake p.2).1.2 : Int)])).heap[g5]? = some (.cells (({ m with ii := ((idtake p.2).1.1 : Int), ij := ((idtake p.2).1.2 : Int) } : Ms).cells).toArray 39) := hpC ([.int .i64 ((idtake p.2).1.1 : Int), .int .i64 ((idtake p.2).1.2 : Int)]) (21) _ z9 Zv5
       have O := ogOwnC O (ogKind O Zv5 (by decide)) ([.int .i64 ((idtake p.2).1.1 : Int), .int .i64 ((idtake p.2).1.2 : Int)]) (21)
       have ee := belowC (g := g5) (by omega) ([.int .i64 ((idtake p.2).1.1 : Int), .int .i64 ((idtake p.2).1.2 : Int)]) (21) z9 ee
       have Zv2 := hpCo (g' := g5) (by omega) ([.int .i64 ((idtake p.2).1.1 : Int), .int .i64 ((idtake p.2).1.2 : Int)]) (21) z9 Zv2
       clear Zv5
       have Zv5 := N_
       clear N_
       skip
       generalize z9.setCells (g5) (21) ([.int .i64 ((idtake p.2).1.1 : Int), .int .i64 ((idtake p.2).1.2 : Int)]) = z10 at Zv2 Zv5 O ee rr tt ck Zi20 ⊢
       try simp only [nP, nN, nA, n0, nS]
       refine wpList_nil ?_
       refine inBlock_normal ?_
       refine inBlock_normal ?_
       refine then_normal ?_
       exact ⟨hkl, ({ m with ii := ((idtake p.2).1.1 : Int), ij := ((idtake p.2).1.2 : Int) } : Ms), ({ p.1 with ii := ((idtake p.2).1.1 : Int), ij := ((idtake p.2).1.2 : Int) }, (idtake p.2).2), by kernel_rfl, Zv2, Zv5, Zi20, ee, rr, tt, O, (ck.same rfl rfl), (by show _ = _; rw [hw1, show c = 73 by omega, mtk_I]), { nk with }, { lk with ii := rfl, ij := rfl }, (fun h_ => ⟨(jk h_).1, (jk h_).2.1, fun _ => (jk h_).2.2 (by omega)⟩)⟩
      have pb23 : (c : Int) = 84 := of_decide_eq_true hb23
      have eb23 : (c : Int) = 84 := of_decide_eq_true hb23
      refine wp_cond_true (by kernel_rfl) ?_
      refine wp_region_lit ?_
      with_reducible refine wv (.pointer (some ⟨gr, 0, none⟩)) ?_
      try simp only [nP, nN, nA, n0, nS]
      have lz_Zv2 := ltAt Zv2
      have lz_Zv5 := ltAt Zv5
      have lz_Zi20 := ltAt Zi20
      have lz_rr := rr.lt.1
      with_reducible refine wc 91 #[.pointer (some ⟨gr, 0, none⟩)] (ttake_t w.heap.size gr z8 p.2 rr tt) ?_
      rintro e z9 ⟨⟨y, rfl, hy, fy⟩, rr_, g_⟩
      refine ⟨_, rfl, ?_⟩
      have Zv2 := heapG Zv2 g_ (by omega)
      have Zv5 := heapG Zv5 g_ (by omega)
      have Zi20 := heapG Zi20 g_ (by omega)
      have O := ownRdr O rr g_
      have ee := ee.grown g_ ee.size (fun i_ h_ => by injection h_ with h_; omega)
      have tt := tt.grown g_ (by omega)
      have ck := ck.rdr g_
      clear rr g_
      have rr := rr_
      clear rr_
      have ck := CtK.newT ck fy lz_rr lz_Zv5 lz_Zv2 lz_Zi20
      try simp only [nP, nN, nA, n0, nS]
      with_reducible refine wv (.pointer (some ⟨g5, 17, none⟩)) ?_
      try simp only [nP, nN, nA, n0, nS]
      refine wpList_storeC 30 (g5) (17) (.agg (y.cells).toArray) (y.cells) (rowThere Zv5 (Nat.le_of_ble_eq_true (by kernel_rfl))) (by kernel_rfl) sizeTn (allOf (by kernel_rfl)) _ _ (by kernel_rfl) rfl (by kernel_rfl) (by kernel_rfl) ?_
      have rr := RdrAt.setN (k := g5) (by omega) (by omega) (y.cells) (17) z9 rr
      have tt := TabsAt.setN (k := g5) (by omega) (y.cells) (17) z9 tt
      have ck := ck.cells (y.cells) (17)
      have Zi20 := (setCells_heap (k := g5) (j := g8) (by omega) (y.cells) (17) z9).trans Zi20
      have N_ : (z9.setCells (g5) (17) (y.cells)).heap[g5]? = some (.cells (({ m with t := y } : Ms).cells).toArray 39) := hpC (y.cells) (17) _ z9 Zv5
      have O := ogOwnC O (ogKind O Zv5 (by decide)) (y.cells) (17)
      have ee := belowC (g := g5) (by omega) (y.cells) (17) z9 ee
      have Zv2 := hpCo (g' := g5) (by omega) (y.cells) (17) z9 Zv2
      clear Zv5
      have Zv5 := N_
      clear N_
      skip
      generalize z9.setCells (g5) (17) (y.cells) = z10 at Zv2 Zv5 O ee rr tt ck Zi20 ⊢
      try simp only [nP, nN, nA, n0, nS]
      refine wpList_nil ?_
      refine inBlock_normal ?_
      refine inBlock_normal ?_
      refine then_normal ?_
      exact ⟨hkl, ({ m with t := y } : Ms), ({ p.1 with t := { p.1.t with s := ((ttake p.2).1.1.1 : Int), q := ((ttake p.2).1.1.2 : Int), rs := (ttake p.2).1.2.1, ws := (ttake p.2).1.2.2 } }, (ttake p.2).2), by kernel_rfl, Zv2, Zv5, Zi20, ee, rr, tt, O, (ck.same rfl rfl), (by show _ = _; rw [hw1, show c = 84 by omega, mtk_T]), { nk with }, { lk with ts := hy.1, tq := hy.2.1, tr := hy.2.2.1, tw := hy.2.2.2 }, (fun h_ => by have := h15 h_; omega)⟩
     have pb21 : (c : Int) = 67 := of_decide_eq_true hb21
     have eb21 : (c : Int) = 67 := of_decide_eq_true hb21
     refine wp_cond_true (by kernel_rfl) ?_
     refine wp_region_lit ?_
     with_reducible refine wv (.pointer (some ⟨gr, 0, none⟩)) ?_
     try simp only [nP, nN, nA, n0, nS]
     have lz_Zv2 := ltAt Zv2
     have lz_Zv5 := ltAt Zv5
     have lz_Zi20 := ltAt Zi20
     have lz_rr := rr.lt.1
     with_reducible refine wc 90 #[.pointer (some ⟨gr, 0, none⟩)] (takec_fresh w.heap.size gr z8 p.2 rr tt) ?_
     rintro e z9 ⟨⟨y, rfl, hy, fy⟩, rr_, g_⟩
     refine ⟨_, rfl, ?_⟩
     have Zv2 := heapG Zv2 g_ (by omega)
     have Zv5 := heapG Zv5 g_ (by omega)
     have Zi20 := heapG Zi20 g_ (by omega)
     have O := ownRdr O rr g_
     have ee := ee.grown g_ ee.size (fun i_ h_ => by injection h_ with h_; omega)
     have tt := tt.grown g_ (by omega)
     have ck := ck.rdr g_
     clear rr g_
     have rr := rr_
     clear rr_
     have ck := CtK.newC ck fy lz_rr lz_Zv5 lz_Zv2 lz_Zi20
     try simp only [nP, nN, nA, n0, nS]
     with_reducible refine wv (.pointer (some ⟨g5, 7, none⟩)) ?_
     try simp only [nP, nN, nA, n0, nS]
     refine wpList_storeC 33 (g5) (7) (.agg (y.cells).toArray) (y.cells) (rowThere Zv5 (Nat.le_of_ble_eq_true (by kernel_rfl))) (by kernel_rfl) sizeCm (allOf (by kernel_rfl)) _ _ (by kernel_rfl) rfl (by kernel_rfl) (by kernel_rfl) ?_
     have rr := RdrAt.setN (k := g5) (by omega) (by omega) (y.cells) (7) z9 rr
     have tt := TabsAt.setN (k := g5) (by omega) (y.cells) (7) z9 tt
     have ck := ck.cells (y.cells) (7)
     have Zi20 := (setCells_heap (k := g5) (j := g8) (by omega) (y.cells) (7) z9).trans Zi20
     have N_ : (z9.setCells (g5) (7) (y.cells)).heap[g5]? = some (.cells (({ m with c := y } : Ms).cells).toArray 39) := hpC (y.cells) (7) _ z9 Zv5
     have O := ogOwnC O (ogKind O Zv5 (by decide)) (y.cells) (7)
     have ee := belowC (g := g5) (by omega) (y.cells) (7) z9 ee
     have Zv2 := hpCo (g' := g5) (by omega) (y.cells) (7) z9 Zv2
     clear Zv5
     have Zv5 := N_
     clear N_
     skip
     generalize z9.setCells (g5) (7) (y.cells) = z10 at Zv2 Zv5 O ee rr tt ck Zi20 ⊢
     try simp only [nP, nN, nA, n0, nS]
     refine wpList_nil ?_
     refine inBlock_normal ?_
     refine inBlock_normal ?_
     refine then_normal ?_
     exact ⟨hkl, ({ m with c := y } : Ms), ({ p.1 with c := (ctake p.2).1 }, (ctake p.2).2), by kernel_rfl, Zv2, Zv5, Zi20, ee, rr, tt, O, (ck.same rfl rfl), (by show _ = _; rw [hw1, show c = 67 by omega, mtk_C]), { nk with }, { lk with c := hy }, (fun h_ => by have := h15 h_; omega)⟩
    have pb19 : (c : Int) = 72 := of_decide_eq_true hb19
    have eb19 : (c : Int) = 72 := of_decide_eq_true hb19
    refine wp_cond_true (by kernel_rfl) ?_
    refine wp_seq_k fun K55 hK55 => ?_
    refine wp_region_lit ?_
    with_reducible refine wv (.pointer (some ⟨gr, 0, none⟩)) ?_
    try simp only [nP, nN, nA, n0, nS]
    with_reducible refine wc 88 #[.pointer (some ⟨gr, 0, none⟩), .int .i64 1] (take_any w.heap.size gr 1 p.2 z8 rr) ?_
    rintro e z9 ⟨rfl, rr_, g_⟩
    refine ⟨_, rfl, ?_⟩
    have Zv2 := heapG Zv2 g_ (by omega)
    have Zv5 := heapG Zv5 g_ (by omega)
    have Zi20 := heapG Zi20 g_ (by omega)
    have O := ownRdr O rr g_
    have ee := ee.grown g_ ee.size (fun i_ h_ => by injection h_ with h_; omega)
    have tt := tt.grown g_ (by omega)
    have ck := ck.rdr g_
    clear rr g_
    have rr := rr_
    clear rr_
    try simp only [nP, nN, nA, n0, nS]
    obtain ⟨b56, hb56⟩ : ∃ d_ : Bool, (decide (((C.take 1 p.2).1 : Int) = 1)) = d_ := ⟨_, rfl⟩
    with_reducible refine wb (.bool b56) (.int .u64 (((C.take 1 p.2).1 : Int))) (.int .u64 1) 31 (run_eqlI hb56) ?_
    try simp only [nP, nN, nA, n0, nS]
    with_reducible refine wv (.pointer (some ⟨g5, 4, none⟩)) ?_
    try simp only [nP, nN, nA, n0, nS]
    refine wpList_storeC 4 (g5) (4) (.bool b56) ([.bool b56]) (rowThere Zv5 (Nat.le_of_ble_eq_true (by kernel_rfl))) (by kernel_rfl) (by kernel_rfl) (all1 rfl) _ _ (by kernel_rfl) rfl (by kernel_rfl) (by kernel_rfl) ?_
    have rr := RdrAt.setN (k := g5) (by omega) (by omega) ([.bool b56]) (4) z9 rr
    have tt := TabsAt.setN (k := g5) (by omega) ([.bool b56]) (4) z9 tt
    have ck := ck.cells ([.bool b56]) (4)
    have Zi20 := (setCells_heap (k := g5) (j := g8) (by omega) ([.bool b56]) (4) z9).trans Zi20
    have N_ : (z9.setCells (g5) (4) ([.bool b56])).heap[g5]? = some (.cells (({ m with ha := b56 } : Ms).cells).toArray 39) := hpC ([.bool b56]) (4) _ z9 Zv5
    have O := ogOwnC O (ogKind O Zv5 (by decide)) ([.bool b56]) (4)
    have ee := belowC (g := g5) (by omega) ([.bool b56]) (4) z9 ee
    have Zv2 := hpCo (g' := g5) (by omega) ([.bool b56]) (4) z9 Zv2
    clear Zv5
    have Zv5 := N_
    clear N_
    skip
    generalize z9.setCells (g5) (4) ([.bool b56]) = z10 at Zv2 Zv5 O ee rr tt ck Zi20 ⊢
    try simp only [nP, nN, nA, n0, nS]
    refine wpList_nil ?_
    refine hK55 _ _ ?_
    refine wp_seq_k fun K57 hK57 => ?_
    refine wp_region_lit ?_
    with_reducible refine wv (.pointer (some ⟨g5, 4, none⟩)) ?_
    try simp only [nP, nN, nA, n0, nS]
    with_reducible refine wl (.bool b56) ⟨g5, 4, none⟩ (rowCell Zv5 (4) rfl) Tryd.underlying4 ?_
    try simp only [nP, nN, nA, n0, nS]
    refine wpList_nil ?_
    refine hK57 _ _ ?_
    cases b56
    ·have pb56 : ¬ (((C.take 1 p.2).1 : Int) = 1) := of_decide_eq_false hb56
     refine wp_cond_false (by kernel_rfl) ?_
     refine wp_skip ?_
     refine inBlock_normal ?_
     refine inBlock_normal ?_
     refine then_normal ?_
     exact ⟨hkl, ({ m with ha := false } : Ms), ({ p.1 with ha := false }, (C.take 1 p.2).2), by kernel_rfl, Zv2, Zv5, Zi20, ee, rr, tt, O, (ck.same rfl rfl), (by show _ = _; rw [hw1, show c = 72 by omega, mtk_H0 p (by omega)]), { nk with }, { lk with ha := rfl }, (fun h_ => ⟨(jk h_).1, (jk h_).2.1, fun _ => (jk h_).2.2 (by omega)⟩)⟩
    have pb56 : ((C.take 1 p.2).1 : Int) = 1 := of_decide_eq_true hb56
    have eb56 : ((C.take 1 p.2).1 : Int) = 1 := of_decide_eq_true hb56
    refine wp_cond_true (by kernel_rfl) ?_
    refine wp_region_lit ?_
    with_reducible refine wv (.pointer (some ⟨gr, 0, none⟩)) ?_
    try simp only [nP, nN, nA, n0, nS]
    with_reducible refine wc 89 #[.pointer (some ⟨gr, 0, none⟩)] (btake_w w.heap.size gr (C.take 1 p.2).2 z10 rr) ?_
    rintro e z11 ⟨rfl, rr_, g_⟩
    refine ⟨_, rfl, ?_⟩
    have Zv2 := heapG Zv2 g_ (by omega)
    have Zv5 := heapG Zv5 g_ (by omega)
    have Zi20 := heapG Zi20 g_ (by omega)
    have O := ownRdr O rr g_
    have ee := ee.grown g_ ee.size (fun i_ h_ => by injection h_ with h_; omega)
    have tt := tt.grown g_ (by omega)
    have ck := ck.rdr g_
    clear rr g_
    have rr := rr_
    clear rr_
    try simp only [nP, nN, nA, n0, nS]
    with_reducible refine wv (.pointer (some ⟨gr, 0, none⟩)) ?_
    try simp only [nP, nN, nA, n0, nS]
    have lz_Zv2 := ltAt Zv2
    have lz_Zv5 := ltAt Zv5
    have lz_Zi20 := ltAt Zi20
    have lz_rr := rr.lt.1
    with_reducible refine wc 90 #[.pointer (some ⟨gr, 0, none⟩)] (takec_fresh w.heap.size gr z11 (B.take (C.take 1 p.2).2).2 rr tt) ?_
    rintro e z12 ⟨⟨y, rfl, hy, fy⟩, rr_, g_⟩
    refine ⟨_, rfl, ?_⟩
    have Zv2 := heapG Zv2 g_ (by omega)
    have Zv5 := heapG Zv5 g_ (by omega)
    have Zi20 := heapG Zi20 g_ (by omega)
    have O := ownRdr O rr g_
    have ee := ee.grown g_ ee.size (fun i_ h_ => by injection h_ with h_; omega)
    have tt := tt.grown g_ (by omega)
    have ck := ck.rdr g_
    clear rr g_
    have rr := rr_
    clear rr_
    have ck := CtK.newC ck fy lz_rr lz_Zv5 lz_Zv2 lz_Zi20
    try simp only [nP, nN, nA, n0, nS]
    with_reducible refine wv (.pointer (some ⟨g5, 5, none⟩)) ?_
    try simp only [nP, nN, nA, n0, nS]
    refine wpList_storeC 24 (g5) (5) (.agg ([.int .u32 ((B.take (C.take 1 p.2).2).1.1 : Int), .int .i64 ((B.take (C.take 1 p.2).2).1.2 : Int)]).toArray) ([.int .u32 ((B.take (C.take 1 p.2).2).1.1 : Int), .int .i64 ((B.take (C.take 1 p.2).2).1.2 : Int)]) (rowThere Zv5 (Nat.le_of_ble_eq_true (by kernel_rfl))) (by kernel_rfl) sizeBal (allOf (by kernel_rfl)) _ _ (by kernel_rfl) rfl (by kernel_rfl) (by kernel_rfl) ?_
    have rr := RdrAt.setN (k := g5) (by omega) (by omega) ([.int .u32 ((B.take (C.take 1 p.2).2).1.1 : Int), .int .i64 ((B.take (C.take 1 p.2).2).1.2 : Int)]) (5) z12 rr
    have tt := TabsAt.setN (k := g5) (by omega) ([.int .u32 ((B.take (C.take 1 p.2).2).1.1 : Int), .int .i64 ((B.take (C.take 1 p.2).2).1.2 : Int)]) (5) z12 tt
    have ck := ck.cells ([.int .u32 ((B.take (C.take 1 p.2).2).1.1 : Int), .int .i64 ((B.take (C.take 1 p.2).2).1.2 : Int)]) (5)
    have Zi20 := (setCells_heap (k := g5) (j := g8) (by omega) ([.int .u32 ((B.take (C.take 1 p.2).2).1.1 : Int), .int .i64 ((B.take (C.take 1 p.2).2).1.2 : Int)]) (5) z12).trans Zi20
    have N_ : (z12.setCells (g5) (5) ([.int .u32 ((B.take (C.take 1 p.2).2).1.1 : Int), .int .i64 ((B.take (C.take 1 p.2).2).1.2 : Int)])).heap[g5]? = some (.cells (({ m with ha := true, vr := (B.take (C.take 1 p.2).2).1.1, vn := ((B.take (C.take 1 p.2).2).1.2 : Int) } : Ms).cells).toArray 39) := hpC ([.int .u32 ((B.take (C.take 1 p.2).2).1.1 : Int), .int .i64 ((B.take (C.take 1 p.2).2).1.2 : Int)]) (5) _ z12 Zv5
    have O := ogOwnC O (ogKind O Zv5 (by decide)) ([.int .u32 ((B.take (C.take 1 p.2).2).1.1 : Int), .int .i64 ((B.take (C.take 1 p.2).2).1.2 : Int)]) (5)
    have ee := belowC (g := g5) (by omega) ([.int .u32 ((B.take (C.take 1 p.2).2).1.1 : Int), .int .i64 ((B.take (C.take 1 p.2).2).1.2 : Int)]) (5) z12 ee
    have Zv2 := hpCo (g' := g5) (by omega) ([.int .u32 ((B.take (C.take 1 p.2).2).1.1 : Int), .int .i64 ((B.take (C.take 1 p.2).2).1.2 : Int)]) (5) z12 Zv2
    clear Zv5
    have Zv5 := N_
    clear N_
    skip
    generalize z12.setCells (g5) (5) ([.int .u32 ((B.take (C.take 1 p.2).2).1.1 : Int), .int .i64 ((B.take (C.take 1 p.2).2).1.2 : Int)]) = z13 at Zv2 Zv5 O ee rr tt ck Zi20 ⊢
    try simp only [nP, nN, nA, n0, nS]
    with_reducible refine wv (.pointer (some ⟨g5, 7, none⟩)) ?_
    try simp only [nP, nN, nA, n0, nS]
    refine wpList_storeC 33 (g5) (7) (.agg (y.cells).toArray) (y.cells) (rowThere Zv5 (Nat.le_of_ble_eq_true (by kernel_rfl))) (by kernel_rfl) sizeCm (allOf (by kernel_rfl)) _ _ (by kernel_rfl) rfl (by kernel_rfl) (by kernel_rfl) ?_
    have rr := RdrAt.setN (k := g5) (by omega) (by omega) (y.cells) (7) z13 rr
    have tt := TabsAt.setN (k := g5) (by omega) (y.cells) (7) z13 tt
    have ck := ck.cells (y.cells) (7)
    have Zi20 := (setCells_heap (k := g5) (j := g8) (by omega) (y.cells) (7) z13).trans Zi20
    have N_ : (z13.setCells (g5) (7) (y.cells)).heap[g5]? = some (.cells (({ m with ha := true, vr := (B.take (C.take 1 p.2).2).1.1, vn := ((B.take (C.take 1 p.2).2).1.2 : Int), c := y } : Ms).cells).toArray 39) := hpC (y.cells) (7) _ z13 Zv5
    have O := ogOwnC O (ogKind O Zv5 (by decide)) (y.cells) (7)
    have ee := belowC (g := g5) (by omega) (y.cells) (7) z13 ee
    have Zv2 := hpCo (g' := g5) (by omega) (y.cells) (7) z13 Zv2
    clear Zv5
    have Zv5 := N_
    clear N_
    skip
    generalize z13.setCells (g5) (7) (y.cells) = z14 at Zv2 Zv5 O ee rr tt ck Zi20 ⊢
    try simp only [nP, nN, nA, n0, nS]
    refine wpList_nil ?_
    refine inBlock_normal ?_
    refine inBlock_normal ?_
    refine then_normal ?_
    exact ⟨hkl, ({ m with ha := true, vr := (B.take (C.take 1 p.2).2).1.1, vn := ((B.take (C.take 1 p.2).2).1.2 : Int), c := y } : Ms), ({ p.1 with ha := true, vr := (B.take (C.take 1 p.2).2).1.1, vn := ((B.take (C.take 1 p.2).2).1.2 : Int), c := (ctake (B.take (C.take 1 p.2).2).2).1 }, (ctake (B.take (C.take 1 p.2).2).2).2), by kernel_rfl, Zv2, Zv5, Zi20, ee, rr, tt, O, (ck.same rfl rfl), (by show _ = _; rw [hw1, show c = 72 by omega, mtk_H1 p (by omega)]), { nk with vr := (btake_lt _).1 }, { lk with ha := rfl, vr := rfl, vn := rfl, c := hy }, (fun h_ => by have := h15 h_; omega)⟩
   have pb17 : (c : Int) = 83 := of_decide_eq_true hb17
   have eb17 : (c : Int) = 83 := of_decide_eq_true hb17
   refine wp_cond_true (by kernel_rfl) ?_
   refine wp_region_lit ?_
   with_reducible refine wv (.pointer (some ⟨gr, 0, none⟩)) ?_
   try simp only [nP, nN, nA, n0, nS]
   with_reducible refine wc 88 #[.pointer (some ⟨gr, 0, none⟩), .int .i64 4] (take_any w.heap.size gr 4 p.2 z8 rr) ?_
   rintro e z9 ⟨rfl, rr_, g_⟩
   refine ⟨_, rfl, ?_⟩
   have Zv2 := heapG Zv2 g_ (by omega)
   have Zv5 := heapG Zv5 g_ (by omega)
   have Zi20 := heapG Zi20 g_ (by omega)
   have O := ownRdr O rr g_
   have ee := ee.grown g_ ee.size (fun i_ h_ => by injection h_ with h_; omega)
   have tt := tt.grown g_ (by omega)
   have ck := ck.rdr g_
   clear rr g_
   have rr := rr_
   clear rr_
   try simp only [nP, nN, nA, n0, nS]
   with_reducible refine wq (.int .i64 (((C.take 4 p.2).1 : Int))) (okIntP ((w4 p.2) : IntKind.i64.wrap (((C.take 4 p.2).1 : Int)) = ((C.take 4 p.2).1 : Int)) (by kernel_rfl)) ?_
   try simp only [nP, nN, nA, n0, nS]
   with_reducible refine wv (.pointer (some ⟨g5, 3, none⟩)) ?_
   try simp only [nP, nN, nA, n0, nS]
   refine wpList_storeC 3 (g5) (3) (.int .i64 (((C.take 4 p.2).1 : Int))) ([.int .i64 (((C.take 4 p.2).1 : Int))]) (rowThere Zv5 (Nat.le_of_ble_eq_true (by kernel_rfl))) (by kernel_rfl) (by kernel_rfl) (all1 rfl) _ _ (by kernel_rfl) rfl (by kernel_rfl) (by kernel_rfl) ?_
   have rr := RdrAt.setN (k := g5) (by omega) (by omega) ([.int .i64 (((C.take 4 p.2).1 : Int))]) (3) z9 rr
   have tt := TabsAt.setN (k := g5) (by omega) ([.int .i64 (((C.take 4 p.2).1 : Int))]) (3) z9 tt
   have ck := ck.cells ([.int .i64 (((C.take 4 p.2).1 : Int))]) (3)
   have Zi20 := (setCells_heap (k := g5) (j := g8) (by omega) ([.int .i64 (((C.take 4 p.2).1 : Int))]) (3) z9).trans Zi20
   have N_ : (z9.setCells (g5) (3) ([.int .i64 (((C.take 4 p.2).1 : Int))])).heap[g5]? = some (.cells (({ m with sl := ((C.take 4 p.2).1 : Int) } : Ms).cells).toArray 39) := hpC ([.int .i64 (((C.take 4 p.2).1 : Int))]) (3) _ z9 Zv5
   have O := ogOwnC O (ogKind O Zv5 (by decide)) ([.int .i64 (((C.take 4 p.2).1 : Int))]) (3)
   have ee := belowC (g := g5) (by omega) ([.int .i64 (((C.take 4 p.2).1 : Int))]) (3) z9 ee
   have Zv2 := hpCo (g' := g5) (by omega) ([.int .i64 (((C.take 4 p.2).1 : Int))]) (3) z9 Zv2
   clear Zv5
   have Zv5 := N_
   clear N_
   skip
   generalize z9.setCells (g5) (3) ([.int .i64 (((C.take 4 p.2).1 : Int))]) = z10 at Zv2 Zv5 O ee rr tt ck Zi20 ⊢
   try simp only [nP, nN, nA, n0, nS]
   refine wpList_nil ?_
   refine inBlock_normal ?_
   refine inBlock_normal ?_
   refine then_normal ?_
   exact ⟨hkl, ({ m with sl := ((C.take 4 p.2).1 : Int) } : Ms), ({ p.1 with sl := ((C.take 4 p.2).1 : Int) }, (C.take 4 p.2).2), by kernel_rfl, Zv2, Zv5, Zi20, ee, rr, tt, O, (ck.same rfl rfl), (by show _ = _; rw [hw1, show c = 83 by omega, mtk_S]), { nk with }, { lk with sl := rfl }, (fun h_ => ⟨(jk h_).1, (jk h_).2.1, fun _ => (jk h_).2.2 (by omega)⟩)⟩
  have pb15 : (c : Int) = 66 := of_decide_eq_true hb15
  have eb15 : (c : Int) = 66 := of_decide_eq_true hb15
  refine wp_cond_true (by kernel_rfl) ?_
  refine wp_region_lit ?_
  with_reducible refine wv (.pointer (some ⟨gr, 0, none⟩)) ?_
  try simp only [nP, nN, nA, n0, nS]
  with_reducible refine wc 89 #[.pointer (some ⟨gr, 0, none⟩)] (btake_w w.heap.size gr p.2 z8 rr) ?_
  rintro e z9 ⟨rfl, rr_, g_⟩
  refine ⟨_, rfl, ?_⟩
  have Zv2 := heapG Zv2 g_ (by omega)
  have Zv5 := heapG Zv5 g_ (by omega)
  have Zi20 := heapG Zi20 g_ (by omega)
  have O := ownRdr O rr g_
  have ee := ee.grown g_ ee.size (fun i_ h_ => by injection h_ with h_; omega)
  have tt := tt.grown g_ (by omega)
  have ck := ck.rdr g_
  clear rr g_
  have rr := rr_
  clear rr_
  try simp only [nP, nN, nA, n0, nS]
  with_reducible refine wv (.pointer (some ⟨g5, 1, none⟩)) ?_
  try simp only [nP, nN, nA, n0, nS]
  refine wpList_storeC 24 (g5) (1) (.agg ([.int .u32 ((B.take p.2).1.1 : Int), .int .i64 ((B.take p.2).1.2 : Int)]).toArray) ([.int .u32 ((B.take p.2).1.1 : Int), .int .i64 ((B.take p.2).1.2 : Int)]) (rowThere Zv5 (Nat.le_of_ble_eq_true (by kernel_rfl))) (by kernel_rfl) sizeBal (allOf (by kernel_rfl)) _ _ (by kernel_rfl) rfl (by kernel_rfl) (by kernel_rfl) ?_
  have rr := RdrAt.setN (k := g5) (by omega) (by omega) ([.int .u32 ((B.take p.2).1.1 : Int), .int .i64 ((B.take p.2).1.2 : Int)]) (1) z9 rr
  have tt := TabsAt.setN (k := g5) (by omega) ([.int .u32 ((B.take p.2).1.1 : Int), .int .i64 ((B.take p.2).1.2 : Int)]) (1) z9 tt
  have ck := ck.cells ([.int .u32 ((B.take p.2).1.1 : Int), .int .i64 ((B.take p.2).1.2 : Int)]) (1)
  have Zi20 := (setCells_heap (k := g5) (j := g8) (by omega) ([.int .u32 ((B.take p.2).1.1 : Int), .int .i64 ((B.take p.2).1.2 : Int)]) (1) z9).trans Zi20
  have N_ : (z9.setCells (g5) (1) ([.int .u32 ((B.take p.2).1.1 : Int), .int .i64 ((B.take p.2).1.2 : Int)])).heap[g5]? = some (.cells (({ m with br := (B.take p.2).1.1, bn := ((B.take p.2).1.2 : Int) } : Ms).cells).toArray 39) := hpC ([.int .u32 ((B.take p.2).1.1 : Int), .int .i64 ((B.take p.2).1.2 : Int)]) (1) _ z9 Zv5
  have O := ogOwnC O (ogKind O Zv5 (by decide)) ([.int .u32 ((B.take p.2).1.1 : Int), .int .i64 ((B.take p.2).1.2 : Int)]) (1)
  have ee := belowC (g := g5) (by omega) ([.int .u32 ((B.take p.2).1.1 : Int), .int .i64 ((B.take p.2).1.2 : Int)]) (1) z9 ee
  have Zv2 := hpCo (g' := g5) (by omega) ([.int .u32 ((B.take p.2).1.1 : Int), .int .i64 ((B.take p.2).1.2 : Int)]) (1) z9 Zv2
  clear Zv5
  have Zv5 := N_
  clear N_
  skip
  generalize z9.setCells (g5) (1) ([.int .u32 ((B.take p.2).1.1 : Int), .int .i64 ((B.take p.2).1.2 : Int)]) = z10 at Zv2 Zv5 O ee rr tt ck Zi20 ⊢
  try simp only [nP, nN, nA, n0, nS]
  refine wpList_nil ?_
  refine inBlock_normal ?_
  refine inBlock_normal ?_
  refine then_normal ?_
  exact ⟨hkl, ({ m with br := (B.take p.2).1.1, bn := ((B.take p.2).1.2 : Int) } : Ms), ({ p.1 with br := (B.take p.2).1.1, bn := ((B.take p.2).1.2 : Int) }, (B.take p.2).2), by kernel_rfl, Zv2, Zv5, Zi20, ee, rr, tt, O, (ck.same rfl rfl), (by show _ = _; rw [hw1, show c = 66 by omega, mtk_B]), { nk with br := (btake_lt _).1 }, { lk with br := rfl, bn := rfl }, (fun h_ => ⟨(jk h_).1, (jk h_).2.1, fun _ => (jk h_).2.2 (by omega)⟩)⟩
 have hnx := fun ty => Lib.run_next_end_at (P := Tryd.prog) zl8 g8 ⟨(fieldsOf (rk l)).toArray⟩ k ty Zi20 (by show ¬ k < (fieldsOf (rk l)).toArray.size; rw [List.size_toArray]; exact hkl)
 with_reducible refine wn (.tuple #[.bool false]) zl8 hnx ?_
 try simp only [nP, nN, nA, n0, nS]
 clear hnx
 have hend := rd_end l k hkl
 rw [← hp] at hend
 rw [hend] at lk
 with_reducible refine wv (.bool false) ?_
 try simp only [nP, nN, nA, n0, nS]
 refine wpList_nil ?_
 refine hK10 _ _ ?_
 refine wp_seq_k fun K58 hK58 => ?_
 refine wp_cond_false (by kernel_rfl) ?_
 refine wp_exit ?_
 refine then_exit ?_
 refine then_exit ?_
 refine inBlock_here ?_
 refine hK6 _ _ ?_
 refine wp_seq_k fun K59 hK59 => ?_
 refine wp_seq_k fun K60 hK60 => ?_
 refine wp_region_lit ?_
 with_reducible refine wg (g5) (0) (m.cells) (rowAt Zv5) Tryd.underlying39 ?_
 try simp only [nP, nN, nA, n0, nS]
 have hdt := rd_data l hl lk
 with_reducible refine wc 20 #[.agg (m.cells).toArray] (mwrite_any m zl8 zl8.heap.size (Nat.le_refl _) (readOk ck nk O) hdt tt.tabs) ?_
 rintro e z8 ⟨⟨v1, l1, x1, rfl, s1, hx1, hl1⟩, t⟩
 refine ⟨_, rfl, ?_⟩
 have rr := rr.below t
 have tt := tt.belowS t
 have ck := ck.below t
 have Zi20 := hpB Zi20 t
 have Zv2 := hpB Zv2 t
 have Zv5 := hpB Zv5 t
 have O := ownBelow O t
 have ee := ee.trans (t.mono ee.size)
 clear t
 try simp only [nP, nN, nA, n0, nS]
 with_reducible refine wv (.tuple #[v1, .int .i64 x1]) ?_
 try simp only [nP, nN, nA, n0, nS]
 with_reducible refine wv (v1) ?_
 try simp only [nP, nN, nA, n0, nS]
 with_reducible refine wv (.int .i64 x1) ?_
 try simp only [nP, nN, nA, n0, nS]
 with_reducible refine wv (v1) ?_
 try simp only [nP, nN, nA, n0, nS]
 with_reducible refine wv (.int .i64 x1) ?_
 try simp only [nP, nN, nA, n0, nS]
 refine wpList_nil ?_
 refine hK60 _ _ ?_
 refine wp_seq_k fun K61 hK61 => ?_
 refine wp_region_lit ?_
 with_reducible refine wv (.int .i64 x1) ?_
 try simp only [nP, nN, nA, n0, nS]
 obtain ⟨b62, hb62⟩ : ∃ d_ : Bool, (decide (x1 = 0)) = d_ := ⟨_, rfl⟩
 cases b62
 ·have pb62 : ¬ (x1 = 0) := of_decide_eq_false hb62
  with_reducible refine wb (.bool true) (.int .i64 x1) (.int .i64 0) 36 (run_neqI hb62) ?_
  try simp only [nP, nN, nA, n0, nS]
  with_reducible refine wv (.bool true) ?_
  try simp only [nP, nN, nA, n0, nS]
  with_reducible refine wk ?_
  try simp only [nP, nN, nA, n0, nS]
  with_reducible refine wk ?_
  try simp only [nP, nN, nA, n0, nS]
  with_reducible refine wk ?_
  try simp only [nP, nN, nA, n0, nS]
  with_reducible refine wk ?_
  try simp only [nP, nN, nA, n0, nS]
  with_reducible refine wv (.bool true) ?_
  try simp only [nP, nN, nA, n0, nS]
  refine wpList_nil ?_
  refine hK61 _ _ ?_
  refine wp_cond_true (by kernel_rfl) ?_
  refine wp_seq_k fun K63 hK63 => ?_
  refine wp_region_lit ?_
  with_reducible refine wv (.agg ((Ms.zero 0).cells).toArray) ?_
  try simp only [nP, nN, nA, n0, nS]
  refine wpList_store_row rfl 39 _ _ rfl (g2) ((Ms.zero 0).cells).toArray rfl rfl 39 _ Zv2 sizeMs (by rfl) (Ms.one _) ?_
  have ck := ck.rowB ((Ms.zero 0).cells).toArray
  have Zi20 := (setRow_other z8 g2 g8 ((Ms.zero 0).cells).toArray (by omega)).trans Zi20
  have N_ := setRow_heap z8 (g2) _ ((Ms.zero 0).cells).toArray _ _ Zv2
  have O := ogOwnR (cs := ((Ms.zero 0).cells).toArray) O (ogKind O Zv2 (by decide))
  have ee := belowSet (cs := ((Ms.zero 0).cells).toArray) ee Zv2 (by omega)
  have Zv5 := hpR Zv5 (g' := g2) (by omega) ((Ms.zero 0).cells).toArray
  clear Zv2
  have Zv2 := N_
  clear N_
  generalize z8.setRow (g2) ((Ms.zero 0).cells).toArray = z9 at Zv2 Zv5 O ee ck Zi20 ⊢
  try simp only [nP, nN, nA, n0, nS]
  with_reducible refine wv (.int .i64 2) ?_
  try simp only [nP, nN, nA, n0, nS]
  refine wpList_nil ?_
  refine hK63 _ _ ?_
  refine wp_ret ?_
  refine then_ret ?_
  have hlf := lk.formed
  have hlw := lk.wr
  have hok : rok l = false := rok_no lk hx1 hl1 (Or.inl (of_decide_eq_false hb62))
  exact bodyPost_ret (v := .tuple #[.agg ((Ms.zero 0).cells).toArray, .int .i64 2]) (res_ct rfl (by kernel_rfl) (by kernel_rfl) Zv2 Tryd.underlying39 rfl sizeMs) rfl ⟨⟨(Ms.zero 0), 2, rfl, zeroOk _ _ 0, by rw [hok]; rfl, by rw [hok]; exact Like.refl _⟩, ee⟩
 have pb62 : x1 = 0 := of_decide_eq_true hb62
 have eb62 : x1 = 0 := of_decide_eq_true hb62
 with_reducible refine wb (.bool false) (.int .i64 x1) (.int .i64 0) 36 (run_neqI hb62) ?_
 try simp only [nP, nN, nA, n0, nS]
 with_reducible refine wv (.bool false) ?_
 try simp only [nP, nN, nA, n0, nS]
 with_reducible refine wv (b) ?_
 try simp only [nP, nN, nA, n0, nS]
 with_reducible refine wv (v1) ?_
 try simp only [nP, nN, nA, n0, nS]
 with_reducible refine wc 58 #[b, v1] (bequal_s ((hb.belowM ee (Nat.le_refl _)).more ee.size) s1 z8) ?_
 rintro e z9 ⟨rfl, hw_⟩
 refine ⟨_, rfl, ?_⟩
 rw [← hw_]
 clear hw_ z9
 generalize hb64 : decide (l = l1) = b64
 try simp only [nP, nN, nA, n0, nS]
 cases b64
 ·with_reducible refine wv (.bool true) ?_
  try simp only [nP, nN, nA, n0, nS]
  with_reducible refine wv (.bool true) ?_
  try simp only [nP, nN, nA, n0, nS]
  refine wpList_nil ?_
  refine hK61 _ _ ?_
  refine wp_cond_true (by kernel_rfl) ?_
  refine wp_seq_k fun K65 hK65 => ?_
  refine wp_region_lit ?_
  with_reducible refine wv (.agg ((Ms.zero 0).cells).toArray) ?_
  try simp only [nP, nN, nA, n0, nS]
  refine wpList_store_row rfl 39 _ _ rfl (g2) ((Ms.zero 0).cells).toArray rfl rfl 39 _ Zv2 sizeMs (by rfl) (Ms.one _) ?_
  have ck := ck.rowB ((Ms.zero 0).cells).toArray
  have Zi20 := (setRow_other z8 g2 g8 ((Ms.zero 0).cells).toArray (by omega)).trans Zi20
  have N_ := setRow_heap z8 (g2) _ ((Ms.zero 0).cells).toArray _ _ Zv2
  have O := ogOwnR (cs := ((Ms.zero 0).cells).toArray) O (ogKind O Zv2 (by decide))
  have ee := belowSet (cs := ((Ms.zero 0).cells).toArray) ee Zv2 (by omega)
  have Zv5 := hpR Zv5 (g' := g2) (by omega) ((Ms.zero 0).cells).toArray
  clear Zv2
  have Zv2 := N_
  clear N_
  generalize z8.setRow (g2) ((Ms.zero 0).cells).toArray = z10 at Zv2 Zv5 O ee ck Zi20 ⊢
  try simp only [nP, nN, nA, n0, nS]
  with_reducible refine wv (.int .i64 2) ?_
  try simp only [nP, nN, nA, n0, nS]
  refine wpList_nil ?_
  refine hK65 _ _ ?_
  refine wp_ret ?_
  refine then_ret ?_
  have hlf := lk.formed
  have hlw := lk.wr
  have hok : rok l = false := rok_no lk hx1 hl1 (Or.inr ⟨of_decide_eq_true hb62, of_decide_eq_false hb64⟩)
  exact bodyPost_ret (v := .tuple #[.agg ((Ms.zero 0).cells).toArray, .int .i64 2]) (res_ct rfl (by kernel_rfl) (by kernel_rfl) Zv2 Tryd.underlying39 rfl sizeMs) rfl ⟨⟨(Ms.zero 0), 2, rfl, zeroOk _ _ 0, by rw [hok]; rfl, by rw [hok]; exact Like.refl _⟩, ee⟩
 with_reducible refine wv (.bool false) ?_
 try simp only [nP, nN, nA, n0, nS]
 with_reducible refine wv (.bool false) ?_
 try simp only [nP, nN, nA, n0, nS]
 refine wpList_nil ?_
 refine hK61 _ _ ?_
 refine wp_cond_false (by kernel_rfl) ?_
 refine wp_skip ?_
 refine hK59 _ _ ?_
 refine wp_seq_k fun K66 hK66 => ?_
 refine wp_region_lit ?_
 with_reducible refine wg (g5) (0) (m.cells) (rowAt Zv5) Tryd.underlying39 ?_
 try simp only [nP, nN, nA, n0, nS]
 refine wpList_store_row rfl 39 _ _ rfl (g2) (m.cells).toArray rfl rfl 39 _ Zv2 sizeMs (by rfl) (Ms.one _) ?_
 have ck := ck.rowB (m.cells).toArray
 have Zi20 := (setRow_other z8 g2 g8 (m.cells).toArray (by omega)).trans Zi20
 have N_ := setRow_heap z8 (g2) _ (m.cells).toArray _ _ Zv2
 have O := ogOwnR (cs := (m.cells).toArray) O (ogKind O Zv2 (by decide))
 have ee := belowSet (cs := (m.cells).toArray) ee Zv2 (by omega)
 have Zv5 := hpR Zv5 (g' := g2) (by omega) (m.cells).toArray
 clear Zv2
 have Zv2 := N_
 clear N_
 generalize z8.setRow (g2) (m.cells).toArray = z10 at Zv2 Zv5 O ee ck Zi20 ⊢
 try simp only [nP, nN, nA, n0, nS]
 with_reducible refine wv (.int .i64 0) ?_
 try simp only [nP, nN, nA, n0, nS]
 refine wpList_nil ?_
 refine hK66 _ _ ?_
 refine wp_ret ?_
 have hlf := lk.formed
 have hlw := lk.wr
 have hok : rok l = true := rok_yes lk hx1 hl1 (of_decide_eq_true hb62) (of_decide_eq_true hb64)
 exact bodyPost_ret (v := .tuple #[.agg (m.cells).toArray, .int .i64 0]) (res_ct rfl (by kernel_rfl) (by kernel_rfl) Zv2 Tryd.underlying39 rfl sizeMs) rfl ⟨⟨m, 0, rfl, readOk ck nk O, by rw [hok]; rfl, by rw [hok]; exact lk⟩, ee⟩
end Go.Proofs.YtjofjpmhokjhnaaDoor
