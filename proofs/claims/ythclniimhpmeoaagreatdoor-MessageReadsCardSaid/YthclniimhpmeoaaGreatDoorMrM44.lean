import Derived.Test.YthclniimhpmeoaaGreatDoorMrM43
set_option linter.unusedSimpArgs false
set_option linter.unusedVariables false
namespace Go.Proofs.YthclniimhpmeoaaGreatDoor
set_option maxRecDepth 20000
open Go.RowKit T
theorem formed_ha (m : Ms) (hf : m.formed = true) (h : m.kd ≠ 2) : m.ha = false := by
 rw [formed_eq] at hf;(have hu : T.uH m.kd = false := by unfold T.uH; simp [h])
 cases hh : m.ha with
 | false => rfl
 | true => exfalso; unfold T.Ms.rformed T.Ms.rfirst at hf; simp [hh, hu] at hf
theorem formed_kd (m : Ms) (hf : m.formed = true) : 1 ≤ m.kd ∧ m.kd ≤ 15 := by
 rw [formed_eq] at hf;unfold T.Ms.rformed at hf
 by_cases h1 : m.kd < 1
 ·simp [h1] at hf
 by_cases h2 : m.kd > 15
 ·simp [h2] at hf
 omega
theorem put_nil1 (x : Nat) : C.put [] x 1 = [UInt8.ofNat x] := put_one [] x
theorem rlw_1 (m : Ms) (h : m.kd = 1) (hh : m.ha = false) : m.rl14 = m.wr := by
 unfold T.Ms.wr T.Ms.rl14 T.Ms.rl13 T.Ms.rl12 T.Ms.rl11 T.Ms.rl10 T.Ms.rl9 T.Ms.rl8 T.Ms.rl7 T.Ms.rl6 T.Ms.rl5 T.Ms.rl4 T.Ms.rl3 T.Ms.rl2 T.Ms.rl1 T.Ms.rl0;rw [h, fields_1, put_nil1];simp only [List.foldl, show ((66 : UInt8)).toNat = 66 from rfl, wput_B, T.uB, T.uS, T.uH, T.uC, T.uT, T.uI, T.uG, T.uP, T.uY, T.uN, T.uK, T.uV, T.uD, hh];simp
theorem rlw_2 (m : Ms) (h : m.kd = 2) : m.rl14 = m.wr := by
 unfold T.Ms.wr T.Ms.rl14 T.Ms.rl13 T.Ms.rl12 T.Ms.rl11 T.Ms.rl10 T.Ms.rl9 T.Ms.rl8 T.Ms.rl7 T.Ms.rl6 T.Ms.rl5 T.Ms.rl4 T.Ms.rl3 T.Ms.rl2 T.Ms.rl1 T.Ms.rl0;rw [h, fields_2, put_nil1];simp only [List.foldl, show ((66 : UInt8)).toNat = 66 from rfl, show ((83 : UInt8)).toNat = 83 from rfl, show ((72 : UInt8)).toNat = 72 from rfl, wput_B, wput_S, wput_H, T.uB, T.uS, T.uH, T.uC, T.uT, T.uI, T.uG, T.uP, T.uY, T.uN, T.uK, T.uV, T.uD]
 cases hh : m.ha <;> simp
theorem rlw_3 (m : Ms) (h : m.kd = 3) (hh : m.ha = false) : m.rl14 = m.wr := by
 unfold T.Ms.wr T.Ms.rl14 T.Ms.rl13 T.Ms.rl12 T.Ms.rl11 T.Ms.rl10 T.Ms.rl9 T.Ms.rl8 T.Ms.rl7 T.Ms.rl6 T.Ms.rl5 T.Ms.rl4 T.Ms.rl3 T.Ms.rl2 T.Ms.rl1 T.Ms.rl0;rw [h, fields_3, put_nil1];simp only [List.foldl, show ((66 : UInt8)).toNat = 66 from rfl, wput_B, T.uB, T.uS, T.uH, T.uC, T.uT, T.uI, T.uG, T.uP, T.uY, T.uN, T.uK, T.uV, T.uD, hh];simp
theorem rlw_4 (m : Ms) (h : m.kd = 4) (hh : m.ha = false) : m.rl14 = m.wr := by
 unfold T.Ms.wr T.Ms.rl14 T.Ms.rl13 T.Ms.rl12 T.Ms.rl11 T.Ms.rl10 T.Ms.rl9 T.Ms.rl8 T.Ms.rl7 T.Ms.rl6 T.Ms.rl5 T.Ms.rl4 T.Ms.rl3 T.Ms.rl2 T.Ms.rl1 T.Ms.rl0;rw [h, fields_4, put_nil1];simp only [List.foldl, show ((66 : UInt8)).toNat = 66 from rfl, show ((83 : UInt8)).toNat = 83 from rfl, show ((67 : UInt8)).toNat = 67 from rfl, wput_B, wput_S, wput_C, T.uB, T.uS, T.uH, T.uC, T.uT, T.uI, T.uG, T.uP, T.uY, T.uN, T.uK, T.uV, T.uD, hh];simp
theorem rlw_5 (m : Ms) (h : m.kd = 5) (hh : m.ha = false) : m.rl14 = m.wr := by
 unfold T.Ms.wr T.Ms.rl14 T.Ms.rl13 T.Ms.rl12 T.Ms.rl11 T.Ms.rl10 T.Ms.rl9 T.Ms.rl8 T.Ms.rl7 T.Ms.rl6 T.Ms.rl5 T.Ms.rl4 T.Ms.rl3 T.Ms.rl2 T.Ms.rl1 T.Ms.rl0;rw [h, fields_5, put_nil1];simp only [List.foldl, show ((66 : UInt8)).toNat = 66 from rfl, show ((83 : UInt8)).toNat = 83 from rfl, wput_B, wput_S, T.uB, T.uS, T.uH, T.uC, T.uT, T.uI, T.uG, T.uP, T.uY, T.uN, T.uK, T.uV, T.uD, hh];simp
theorem rlw_6 (m : Ms) (h : m.kd = 6) (hh : m.ha = false) : m.rl14 = m.wr := by
 unfold T.Ms.wr T.Ms.rl14 T.Ms.rl13 T.Ms.rl12 T.Ms.rl11 T.Ms.rl10 T.Ms.rl9 T.Ms.rl8 T.Ms.rl7 T.Ms.rl6 T.Ms.rl5 T.Ms.rl4 T.Ms.rl3 T.Ms.rl2 T.Ms.rl1 T.Ms.rl0;rw [h, fields_6, put_nil1];simp only [List.foldl, show ((83 : UInt8)).toNat = 83 from rfl, show ((67 : UInt8)).toNat = 67 from rfl, wput_S, wput_C, T.uB, T.uS, T.uH, T.uC, T.uT, T.uI, T.uG, T.uP, T.uY, T.uN, T.uK, T.uV, T.uD, hh];simp
theorem rlw_7 (m : Ms) (h : m.kd = 7) (hh : m.ha = false) : m.rl14 = m.wr := by
 unfold T.Ms.wr T.Ms.rl14 T.Ms.rl13 T.Ms.rl12 T.Ms.rl11 T.Ms.rl10 T.Ms.rl9 T.Ms.rl8 T.Ms.rl7 T.Ms.rl6 T.Ms.rl5 T.Ms.rl4 T.Ms.rl3 T.Ms.rl2 T.Ms.rl1 T.Ms.rl0;rw [h, fields_7, put_nil1];simp only [List.foldl, show ((83 : UInt8)).toNat = 83 from rfl, wput_S, T.uB, T.uS, T.uH, T.uC, T.uT, T.uI, T.uG, T.uP, T.uY, T.uN, T.uK, T.uV, T.uD, hh];simp
theorem rlw_8 (m : Ms) (h : m.kd = 8) (hh : m.ha = false) : m.rl14 = m.wr := by
 unfold T.Ms.wr T.Ms.rl14 T.Ms.rl13 T.Ms.rl12 T.Ms.rl11 T.Ms.rl10 T.Ms.rl9 T.Ms.rl8 T.Ms.rl7 T.Ms.rl6 T.Ms.rl5 T.Ms.rl4 T.Ms.rl3 T.Ms.rl2 T.Ms.rl1 T.Ms.rl0;rw [h, fields_8, put_nil1];simp only [List.foldl, show ((84 : UInt8)).toNat = 84 from rfl, wput_T, T.uB, T.uS, T.uH, T.uC, T.uT, T.uI, T.uG, T.uP, T.uY, T.uN, T.uK, T.uV, T.uD, hh];simp
theorem rlw_9 (m : Ms) (h : m.kd = 9) (hh : m.ha = false) : m.rl14 = m.wr := by
 unfold T.Ms.wr T.Ms.rl14 T.Ms.rl13 T.Ms.rl12 T.Ms.rl11 T.Ms.rl10 T.Ms.rl9 T.Ms.rl8 T.Ms.rl7 T.Ms.rl6 T.Ms.rl5 T.Ms.rl4 T.Ms.rl3 T.Ms.rl2 T.Ms.rl1 T.Ms.rl0;rw [h, fields_9, put_nil1];simp only [List.foldl, show ((73 : UInt8)).toNat = 73 from rfl, show ((71 : UInt8)).toNat = 71 from rfl, show ((80 : UInt8)).toNat = 80 from rfl, wput_I, wput_G, wput_P, T.uB, T.uS, T.uH, T.uC, T.uT, T.uI, T.uG, T.uP, T.uY, T.uN, T.uK, T.uV, T.uD, hh];simp
theorem rlw_10 (m : Ms) (h : m.kd = 10) (hh : m.ha = false) : m.rl14 = m.wr := by
 unfold T.Ms.wr T.Ms.rl14 T.Ms.rl13 T.Ms.rl12 T.Ms.rl11 T.Ms.rl10 T.Ms.rl9 T.Ms.rl8 T.Ms.rl7 T.Ms.rl6 T.Ms.rl5 T.Ms.rl4 T.Ms.rl3 T.Ms.rl2 T.Ms.rl1 T.Ms.rl0;rw [h, fields_10, put_nil1];simp only [List.foldl, show ((73 : UInt8)).toNat = 73 from rfl, show ((71 : UInt8)).toNat = 71 from rfl, show ((89 : UInt8)).toNat = 89 from rfl, wput_I, wput_G, wput_Y, T.uB, T.uS, T.uH, T.uC, T.uT, T.uI, T.uG, T.uP, T.uY, T.uN, T.uK, T.uV, T.uD, hh];simp
theorem rlw_11 (m : Ms) (h : m.kd = 11) (hh : m.ha = false) : m.rl14 = m.wr := by
 unfold T.Ms.wr T.Ms.rl14 T.Ms.rl13 T.Ms.rl12 T.Ms.rl11 T.Ms.rl10 T.Ms.rl9 T.Ms.rl8 T.Ms.rl7 T.Ms.rl6 T.Ms.rl5 T.Ms.rl4 T.Ms.rl3 T.Ms.rl2 T.Ms.rl1 T.Ms.rl0;rw [h, fields_11, put_nil1];simp only [List.foldl, show ((73 : UInt8)).toNat = 73 from rfl, show ((71 : UInt8)).toNat = 71 from rfl, show ((80 : UInt8)).toNat = 80 from rfl, show ((89 : UInt8)).toNat = 89 from rfl, wput_I, wput_G, wput_P, wput_Y, T.uB, T.uS, T.uH, T.uC, T.uT, T.uI, T.uG, T.uP, T.uY, T.uN, T.uK, T.uV, T.uD, hh];simp
theorem rlw_12 (m : Ms) (h : m.kd = 12) (hh : m.ha = false) : m.rl14 = m.wr := by
 unfold T.Ms.wr T.Ms.rl14 T.Ms.rl13 T.Ms.rl12 T.Ms.rl11 T.Ms.rl10 T.Ms.rl9 T.Ms.rl8 T.Ms.rl7 T.Ms.rl6 T.Ms.rl5 T.Ms.rl4 T.Ms.rl3 T.Ms.rl2 T.Ms.rl1 T.Ms.rl0;rw [h, fields_12, put_nil1];simp only [List.foldl, show ((80 : UInt8)).toNat = 80 from rfl, show ((78 : UInt8)).toNat = 78 from rfl, show ((75 : UInt8)).toNat = 75 from rfl, wput_P, wput_N, wput_K, T.uB, T.uS, T.uH, T.uC, T.uT, T.uI, T.uG, T.uP, T.uY, T.uN, T.uK, T.uV, T.uD, hh];simp
theorem rlw_13 (m : Ms) (h : m.kd = 13) (hh : m.ha = false) : m.rl14 = m.wr := by
 unfold T.Ms.wr T.Ms.rl14 T.Ms.rl13 T.Ms.rl12 T.Ms.rl11 T.Ms.rl10 T.Ms.rl9 T.Ms.rl8 T.Ms.rl7 T.Ms.rl6 T.Ms.rl5 T.Ms.rl4 T.Ms.rl3 T.Ms.rl2 T.Ms.rl1 T.Ms.rl0;rw [h, fields_13, put_nil1];simp only [List.foldl, show ((71 : UInt8)).toNat = 71 from rfl, show ((80 : UInt8)).toNat = 80 from rfl, show ((78 : UInt8)).toNat = 78 from rfl, show ((75 : UInt8)).toNat = 75 from rfl, show ((86 : UInt8)).toNat = 86 from rfl, show ((88 : UInt8)).toNat = 88 from rfl, show ((69 : UInt8)).toNat = 69 from rfl, wput_G, wput_P, wput_N, wput_K, wput_V, wput_X, wput_E, T.uB, T.uS, T.uH, T.uC, T.uT, T.uI, T.uG, T.uP, T.uY, T.uN, T.uK, T.uV, T.uD, hh];simp
theorem rlw_14 (m : Ms) (h : m.kd = 14) (hh : m.ha = false) : m.rl14 = m.wr := by
 unfold T.Ms.wr T.Ms.rl14 T.Ms.rl13 T.Ms.rl12 T.Ms.rl11 T.Ms.rl10 T.Ms.rl9 T.Ms.rl8 T.Ms.rl7 T.Ms.rl6 T.Ms.rl5 T.Ms.rl4 T.Ms.rl3 T.Ms.rl2 T.Ms.rl1 T.Ms.rl0;rw [h, fields_14, put_nil1];simp only [List.foldl, show ((78 : UInt8)).toNat = 78 from rfl, wput_N, T.uB, T.uS, T.uH, T.uC, T.uT, T.uI, T.uG, T.uP, T.uY, T.uN, T.uK, T.uV, T.uD, hh];simp
theorem rlw_15 (m : Ms) (h : m.kd = 15) (hh : m.ha = false) : m.rl14 = m.wr := by
 unfold T.Ms.wr T.Ms.rl14 T.Ms.rl13 T.Ms.rl12 T.Ms.rl11 T.Ms.rl10 T.Ms.rl9 T.Ms.rl8 T.Ms.rl7 T.Ms.rl6 T.Ms.rl5 T.Ms.rl4 T.Ms.rl3 T.Ms.rl2 T.Ms.rl1 T.Ms.rl0;rw [h, fields_15, put_nil1];simp only [List.foldl, show ((83 : UInt8)).toNat = 83 from rfl, show ((68 : UInt8)).toNat = 68 from rfl, wput_S, wput_D, T.uB, T.uS, T.uH, T.uC, T.uT, T.uI, T.uG, T.uP, T.uY, T.uN, T.uK, T.uV, T.uD, hh];simp
theorem rl_wr (m : Ms) (hf : m.formed = true) : m.rl14 = m.wr := by
 obtain ⟨h1, h2⟩ := formed_kd m hf
 by_cases k1 : m.kd = 1
 ·exact rlw_1 m k1 (formed_ha m hf (by omega))
 by_cases k2 : m.kd = 2
 ·exact rlw_2 m k2
 by_cases k3 : m.kd = 3
 ·exact rlw_3 m k3 (formed_ha m hf (by omega))
 by_cases k4 : m.kd = 4
 ·exact rlw_4 m k4 (formed_ha m hf (by omega))
 by_cases k5 : m.kd = 5
 ·exact rlw_5 m k5 (formed_ha m hf (by omega))
 by_cases k6 : m.kd = 6
 ·exact rlw_6 m k6 (formed_ha m hf (by omega))
 by_cases k7 : m.kd = 7
 ·exact rlw_7 m k7 (formed_ha m hf (by omega))
 by_cases k8 : m.kd = 8
 ·exact rlw_8 m k8 (formed_ha m hf (by omega))
 by_cases k9 : m.kd = 9
 ·exact rlw_9 m k9 (formed_ha m hf (by omega))
 by_cases k10 : m.kd = 10
 ·exact rlw_10 m k10 (formed_ha m hf (by omega))
 by_cases k11 : m.kd = 11
 ·exact rlw_11 m k11 (formed_ha m hf (by omega))
 by_cases k12 : m.kd = 12
 ·exact rlw_12 m k12 (formed_ha m hf (by omega))
 by_cases k13 : m.kd = 13
 ·exact rlw_13 m k13 (formed_ha m hf (by omega))
 by_cases k14 : m.kd = 14
 ·exact rlw_14 m k14 (formed_ha m hf (by omega))
 by_cases k15 : m.kd = 15
 ·exact rlw_15 m k15 (formed_ha m hf (by omega))
 exfalso; omega
theorem both_wr (m : Ms) : (bif m.formed then m.wr else []) = (bif m.formed then m.rl14 else []) := by
 cases hf : m.formed with
 | false => rfl
 | true => exact (rl_wr m hf).symm
end Go.Proofs.YthclniimhpmeoaaGreatDoor
