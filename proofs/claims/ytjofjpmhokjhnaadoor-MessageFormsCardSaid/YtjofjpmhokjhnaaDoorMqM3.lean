/- The law MessageForms. Conditions: what lies, lies below. (Printed by gen_msg.py.) -/
import Derived.Test.YtjofjpmhokjhnaaDoorMqM2
namespace Go.Proofs.YtjofjpmhokjhnaaDoor
set_option maxRecDepth 20000
open Go.RowKit T
set_option linter.unusedSimpArgs false
set_option linter.unusedVariables false

theorem SameC_refl (x : Cm) : SameC x x = true := by unfold SameC; simp
theorem SameT_refl (x : Tn) : SameT x x = true := by unfold SameT; simp
theorem SameC_comm (x y : Cm) : SameC x y = SameC y x := by
  unfold SameC; rw [decide_eq_decide]
  constructor <;> (rintro ⟨h1, ⟨h2, h3⟩, h4, h5, h6, h7, h8, h9, h10⟩; exact ⟨h1.symm, ⟨h2.symm, h3.symm⟩, h4.symm, h5.symm, h6.symm, h7.symm, h8.symm, h9.symm, h10.symm⟩)
theorem SameT_comm (x y : Tn) : SameT x y = SameT y x := by
  unfold SameT; rw [decide_eq_decide]
  constructor <;> (rintro ⟨h1, h2, h3, h4⟩; exact ⟨h1.symm, h2.symm, h3.symm, h4.symm⟩)
theorem Ms.same_refl (m : Ms) : m.same m = true := by unfold T.Ms.same; simp [SameC_refl, SameT_refl]
theorem fields_1 : fieldsOf 1 = [66] := by decide
theorem fields_2 : fieldsOf 2 = [66, 83, 72] := by decide
theorem fields_3 : fieldsOf 3 = [66] := by decide
theorem fields_4 : fieldsOf 4 = [66, 83, 67] := by decide
theorem fields_5 : fieldsOf 5 = [66, 83] := by decide
theorem fields_6 : fieldsOf 6 = [83, 67] := by decide
theorem fields_7 : fieldsOf 7 = [83] := by decide
theorem fields_8 : fieldsOf 8 = [84] := by decide
theorem fields_9 : fieldsOf 9 = [73, 71, 80] := by decide
theorem fields_10 : fieldsOf 10 = [73, 71, 89] := by decide
theorem fields_11 : fieldsOf 11 = [73, 71, 80, 89] := by decide
theorem fields_12 : fieldsOf 12 = [80, 78, 75] := by decide
theorem fields_13 : fieldsOf 13 = [71, 80, 78, 75, 86, 88, 69] := by decide
theorem fields_14 : fieldsOf 14 = [78] := by decide
theorem fields_15 : fieldsOf 15 = [83, 68] := by decide
theorem only_1 (m : Ms) (h : m.kd = 1) : m.only = { Ms.zero 1 with br := m.br, bn := m.bn } := by
  unfold Ms.only
  rw [h, fields_1]
  simp [List.foldl, Ms.put]
theorem only_2 (m : Ms) (h : m.kd = 2) : m.only = (if m.ha then { Ms.zero 2 with br := m.br, bn := m.bn, sl := m.sl, ha := true, vr := m.vr, vn := m.vn, c := m.c } else { Ms.zero 2 with br := m.br, bn := m.bn, sl := m.sl }) := by
  unfold Ms.only
  rw [h, fields_2]
  cases hb : m.ha <;> simp [List.foldl, Ms.put, hb, Ms.zero]
theorem only_3 (m : Ms) (h : m.kd = 3) : m.only = { Ms.zero 3 with br := m.br, bn := m.bn } := by
  unfold Ms.only
  rw [h, fields_3]
  simp [List.foldl, Ms.put]
theorem only_4 (m : Ms) (h : m.kd = 4) : m.only = { Ms.zero 4 with br := m.br, bn := m.bn, sl := m.sl, c := m.c } := by
  unfold Ms.only
  rw [h, fields_4]
  simp [List.foldl, Ms.put]
theorem only_5 (m : Ms) (h : m.kd = 5) : m.only = { Ms.zero 5 with br := m.br, bn := m.bn, sl := m.sl } := by
  unfold Ms.only
  rw [h, fields_5]
  simp [List.foldl, Ms.put]
theorem only_6 (m : Ms) (h : m.kd = 6) : m.only = { Ms.zero 6 with sl := m.sl, c := m.c } := by
  unfold Ms.only
  rw [h, fields_6]
  simp [List.foldl, Ms.put]
theorem only_7 (m : Ms) (h : m.kd = 7) : m.only = { Ms.zero 7 with sl := m.sl } := by
  unfold Ms.only
  rw [h, fields_7]
  simp [List.foldl, Ms.put]
theorem only_8 (m : Ms) (h : m.kd = 8) : m.only = { Ms.zero 8 with t := m.t } := by
  unfold Ms.only
  rw [h, fields_8]
  simp [List.foldl, Ms.put]
theorem only_9 (m : Ms) (h : m.kd = 9) : m.only = { Ms.zero 9 with ii := m.ii, ij := m.ij, g := m.g, st := m.st } := by
  unfold Ms.only
  rw [h, fields_9]
  simp [List.foldl, Ms.put]
theorem only_10 (m : Ms) (h : m.kd = 10) : m.only = { Ms.zero 10 with ii := m.ii, ij := m.ij, g := m.g, ye := m.ye } := by
  unfold Ms.only
  rw [h, fields_10]
  simp [List.foldl, Ms.put]
theorem only_11 (m : Ms) (h : m.kd = 11) : m.only = { Ms.zero 11 with ii := m.ii, ij := m.ij, g := m.g, st := m.st, ye := m.ye } := by
  unfold Ms.only
  rw [h, fields_11]
  simp [List.foldl, Ms.put]
theorem only_12 (m : Ms) (h : m.kd = 12) : m.only = { Ms.zero 12 with st := m.st, nu := m.nu, ky := m.ky } := by
  unfold Ms.only
  rw [h, fields_12]
  simp [List.foldl, Ms.put]
theorem only_13 (m : Ms) (h : m.kd = 13) : m.only = { Ms.zero 13 with g := m.g, st := m.st, nu := m.nu, ky := m.ky, ve := m.ve, vk := m.vk, vb := m.vb, vt := m.vt, er := m.er } := by
  unfold Ms.only
  rw [h, fields_13]
  simp [List.foldl, Ms.put]
theorem only_14 (m : Ms) (h : m.kd = 14) : m.only = { Ms.zero 14 with nu := m.nu } := by
  unfold Ms.only
  rw [h, fields_14]
  simp [List.foldl, Ms.put]
theorem only_15 (m : Ms) (h : m.kd = 15) : m.only = { Ms.zero 15 with sl := m.sl, dt := m.dt, D := m.D, dc := m.dc } := by
  unfold Ms.only
  rw [h, fields_15]
  simp [List.foldl, Ms.put]
set_option maxHeartbeats 4000000
theorem fkd_1 (m : Ms) (h : m.kd = 1) : m.formed = m.rformed := by
  rw [Bool.eq_iff_iff]
  unfold T.Ms.formed T.Ms.fit T.Ms.sound T.Ms.rformed T.Ms.rfirst T.Ms.rsecond
  rw [only_1 m h, SameC_comm m.c Cm.zero, SameT_comm m.t Tn.zero]
  unfold T.Ms.same
  simp only [h, fields_1, Tn.formed, T.uB, T.uS, T.uH, T.uC, T.uT, T.uI, T.uG, T.uP, T.uY, T.uN, T.uK, T.uV, T.uD, Ms.zero]
  cases hh : m.ha <;> simp [SameC_refl, SameT_refl, Lib.toList_data] <;> (try simp only [decide_eq_true_eq]) <;> grind
theorem fkd_2 (m : Ms) (h : m.kd = 2) : m.formed = m.rformed := by
  rw [Bool.eq_iff_iff]
  unfold T.Ms.formed T.Ms.fit T.Ms.sound T.Ms.rformed T.Ms.rfirst T.Ms.rsecond
  rw [only_2 m h, SameC_comm m.c Cm.zero, SameT_comm m.t Tn.zero]
  unfold T.Ms.same
  simp only [h, fields_2, Tn.formed, T.uB, T.uS, T.uH, T.uC, T.uT, T.uI, T.uG, T.uP, T.uY, T.uN, T.uK, T.uV, T.uD, Ms.zero]
  cases hh : m.ha <;> simp [SameC_refl, SameT_refl, Lib.toList_data] <;> (try simp only [decide_eq_true_eq]) <;> grind
theorem fkd_3 (m : Ms) (h : m.kd = 3) : m.formed = m.rformed := by
  rw [Bool.eq_iff_iff]
  unfold T.Ms.formed T.Ms.fit T.Ms.sound T.Ms.rformed T.Ms.rfirst T.Ms.rsecond
  rw [only_3 m h, SameC_comm m.c Cm.zero, SameT_comm m.t Tn.zero]
  unfold T.Ms.same
  simp only [h, fields_3, Tn.formed, T.uB, T.uS, T.uH, T.uC, T.uT, T.uI, T.uG, T.uP, T.uY, T.uN, T.uK, T.uV, T.uD, Ms.zero]
  cases hh : m.ha <;> simp [SameC_refl, SameT_refl, Lib.toList_data] <;> (try simp only [decide_eq_true_eq]) <;> grind
theorem fkd_4 (m : Ms) (h : m.kd = 4) : m.formed = m.rformed := by
  rw [Bool.eq_iff_iff]
  unfold T.Ms.formed T.Ms.fit T.Ms.sound T.Ms.rformed T.Ms.rfirst T.Ms.rsecond
  rw [only_4 m h, SameC_comm m.c Cm.zero, SameT_comm m.t Tn.zero]
  unfold T.Ms.same
  simp only [h, fields_4, Tn.formed, T.uB, T.uS, T.uH, T.uC, T.uT, T.uI, T.uG, T.uP, T.uY, T.uN, T.uK, T.uV, T.uD, Ms.zero]
  cases hh : m.ha <;> simp [SameC_refl, SameT_refl, Lib.toList_data] <;> (try simp only [decide_eq_true_eq]) <;> grind
theorem fkd_5 (m : Ms) (h : m.kd = 5) : m.formed = m.rformed := by
  rw [Bool.eq_iff_iff]
  unfold T.Ms.formed T.Ms.fit T.Ms.sound T.Ms.rformed T.Ms.rfirst T.Ms.rsecond
  rw [only_5 m h, SameC_comm m.c Cm.zero, SameT_comm m.t Tn.zero]
  unfold T.Ms.same
  simp only [h, fields_5, Tn.formed, T.uB, T.uS, T.uH, T.uC, T.uT, T.uI, T.uG, T.uP, T.uY, T.uN, T.uK, T.uV, T.uD, Ms.zero]
  cases hh : m.ha <;> simp [SameC_refl, SameT_refl, Lib.toList_data] <;> (try simp only [decide_eq_true_eq]) <;> grind
theorem fkd_6 (m : Ms) (h : m.kd = 6) : m.formed = m.rformed := by
  rw [Bool.eq_iff_iff]
  unfold T.Ms.formed T.Ms.fit T.Ms.sound T.Ms.rformed T.Ms.rfirst T.Ms.rsecond
  rw [only_6 m h, SameC_comm m.c Cm.zero, SameT_comm m.t Tn.zero]
  unfold T.Ms.same
  simp only [h, fields_6, Tn.formed, T.uB, T.uS, T.uH, T.uC, T.uT, T.uI, T.uG, T.uP, T.uY, T.uN, T.uK, T.uV, T.uD, Ms.zero]
  cases hh : m.ha <;> simp [SameC_refl, SameT_refl, Lib.toList_data] <;> (try simp only [decide_eq_true_eq]) <;> grind
theorem fkd_7 (m : Ms) (h : m.kd = 7) : m.formed = m.rformed := by
  rw [Bool.eq_iff_iff]
  unfold T.Ms.formed T.Ms.fit T.Ms.sound T.Ms.rformed T.Ms.rfirst T.Ms.rsecond
  rw [only_7 m h, SameC_comm m.c Cm.zero, SameT_comm m.t Tn.zero]
  unfold T.Ms.same
  simp only [h, fields_7, Tn.formed, T.uB, T.uS, T.uH, T.uC, T.uT, T.uI, T.uG, T.uP, T.uY, T.uN, T.uK, T.uV, T.uD, Ms.zero]
  cases hh : m.ha <;> simp [SameC_refl, SameT_refl, Lib.toList_data] <;> (try simp only [decide_eq_true_eq]) <;> grind
theorem fkd_8 (m : Ms) (h : m.kd = 8) : m.formed = m.rformed := by
  rw [Bool.eq_iff_iff]
  unfold T.Ms.formed T.Ms.fit T.Ms.sound T.Ms.rformed T.Ms.rfirst T.Ms.rsecond
  rw [only_8 m h, SameC_comm m.c Cm.zero, SameT_comm m.t Tn.zero]
  unfold T.Ms.same
  simp only [h, fields_8, Tn.formed, T.uB, T.uS, T.uH, T.uC, T.uT, T.uI, T.uG, T.uP, T.uY, T.uN, T.uK, T.uV, T.uD, Ms.zero]
  cases hh : m.ha <;> simp [SameC_refl, SameT_refl, Lib.toList_data] <;> (try simp only [decide_eq_true_eq]) <;> grind
theorem fkd_9 (m : Ms) (h : m.kd = 9) : m.formed = m.rformed := by
  rw [Bool.eq_iff_iff]
  unfold T.Ms.formed T.Ms.fit T.Ms.sound T.Ms.rformed T.Ms.rfirst T.Ms.rsecond
  rw [only_9 m h, SameC_comm m.c Cm.zero, SameT_comm m.t Tn.zero]
  unfold T.Ms.same
  simp only [h, fields_9, Tn.formed, T.uB, T.uS, T.uH, T.uC, T.uT, T.uI, T.uG, T.uP, T.uY, T.uN, T.uK, T.uV, T.uD, Ms.zero]
  cases hh : m.ha <;> simp [SameC_refl, SameT_refl, Lib.toList_data] <;> (try simp only [decide_eq_true_eq]) <;> grind
theorem fkd_10 (m : Ms) (h : m.kd = 10) : m.formed = m.rformed := by
  rw [Bool.eq_iff_iff]
  unfold T.Ms.formed T.Ms.fit T.Ms.sound T.Ms.rformed T.Ms.rfirst T.Ms.rsecond
  rw [only_10 m h, SameC_comm m.c Cm.zero, SameT_comm m.t Tn.zero]
  unfold T.Ms.same
  simp only [h, fields_10, Tn.formed, T.uB, T.uS, T.uH, T.uC, T.uT, T.uI, T.uG, T.uP, T.uY, T.uN, T.uK, T.uV, T.uD, Ms.zero]
  cases hh : m.ha <;> simp [SameC_refl, SameT_refl, Lib.toList_data] <;> (try simp only [decide_eq_true_eq]) <;> grind
theorem fkd_11 (m : Ms) (h : m.kd = 11) : m.formed = m.rformed := by
  rw [Bool.eq_iff_iff]
  unfold T.Ms.formed T.Ms.fit T.Ms.sound T.Ms.rformed T.Ms.rfirst T.Ms.rsecond
  rw [only_11 m h, SameC_comm m.c Cm.zero, SameT_comm m.t Tn.zero]
  unfold T.Ms.same
  simp only [h, fields_11, Tn.formed, T.uB, T.uS, T.uH, T.uC, T.uT, T.uI, T.uG, T.uP, T.uY, T.uN, T.uK, T.uV, T.uD, Ms.zero]
  cases hh : m.ha <;> simp [SameC_refl, SameT_refl, Lib.toList_data] <;> (try simp only [decide_eq_true_eq]) <;> grind
theorem fkd_12 (m : Ms) (h : m.kd = 12) : m.formed = m.rformed := by
  rw [Bool.eq_iff_iff]
  unfold T.Ms.formed T.Ms.fit T.Ms.sound T.Ms.rformed T.Ms.rfirst T.Ms.rsecond
  rw [only_12 m h, SameC_comm m.c Cm.zero, SameT_comm m.t Tn.zero]
  unfold T.Ms.same
  simp only [h, fields_12, Tn.formed, T.uB, T.uS, T.uH, T.uC, T.uT, T.uI, T.uG, T.uP, T.uY, T.uN, T.uK, T.uV, T.uD, Ms.zero]
  cases hh : m.ha <;> simp [SameC_refl, SameT_refl, Lib.toList_data] <;> (try simp only [decide_eq_true_eq]) <;> grind
theorem fkd_13 (m : Ms) (h : m.kd = 13) : m.formed = m.rformed := by
  rw [Bool.eq_iff_iff]
  unfold T.Ms.formed T.Ms.fit T.Ms.sound T.Ms.rformed T.Ms.rfirst T.Ms.rsecond
  rw [only_13 m h, SameC_comm m.c Cm.zero, SameT_comm m.t Tn.zero]
  unfold T.Ms.same
  simp only [h, fields_13, Tn.formed, T.uB, T.uS, T.uH, T.uC, T.uT, T.uI, T.uG, T.uP, T.uY, T.uN, T.uK, T.uV, T.uD, Ms.zero]
  cases hh : m.ha <;> simp [SameC_refl, SameT_refl, Lib.toList_data] <;> (try simp only [decide_eq_true_eq]) <;> grind
theorem fkd_14 (m : Ms) (h : m.kd = 14) : m.formed = m.rformed := by
  rw [Bool.eq_iff_iff]
  unfold T.Ms.formed T.Ms.fit T.Ms.sound T.Ms.rformed T.Ms.rfirst T.Ms.rsecond
  rw [only_14 m h, SameC_comm m.c Cm.zero, SameT_comm m.t Tn.zero]
  unfold T.Ms.same
  simp only [h, fields_14, Tn.formed, T.uB, T.uS, T.uH, T.uC, T.uT, T.uI, T.uG, T.uP, T.uY, T.uN, T.uK, T.uV, T.uD, Ms.zero]
  cases hh : m.ha <;> simp [SameC_refl, SameT_refl, Lib.toList_data] <;> (try simp only [decide_eq_true_eq]) <;> grind
theorem fkd_15 (m : Ms) (h : m.kd = 15) : m.formed = m.rformed := by
  rw [Bool.eq_iff_iff]
  unfold T.Ms.formed T.Ms.fit T.Ms.sound T.Ms.rformed T.Ms.rfirst T.Ms.rsecond
  rw [only_15 m h, SameC_comm m.c Cm.zero, SameT_comm m.t Tn.zero]
  unfold T.Ms.same
  simp only [h, fields_15, Tn.formed, T.uB, T.uS, T.uH, T.uC, T.uT, T.uI, T.uG, T.uP, T.uY, T.uN, T.uK, T.uV, T.uD, Ms.zero]
  cases hh : m.ha <;> simp [SameC_refl, SameT_refl, Lib.toList_data] <;> (try simp only [decide_eq_true_eq]) <;> grind
/-- what both sides call formed is the same -/
theorem formed_eq (m : Ms) : m.formed = m.rformed := by
  by_cases k1 : m.kd = 1
  · exact fkd_1 m k1
  by_cases k2 : m.kd = 2
  · exact fkd_2 m k2
  by_cases k3 : m.kd = 3
  · exact fkd_3 m k3
  by_cases k4 : m.kd = 4
  · exact fkd_4 m k4
  by_cases k5 : m.kd = 5
  · exact fkd_5 m k5
  by_cases k6 : m.kd = 6
  · exact fkd_6 m k6
  by_cases k7 : m.kd = 7
  · exact fkd_7 m k7
  by_cases k8 : m.kd = 8
  · exact fkd_8 m k8
  by_cases k9 : m.kd = 9
  · exact fkd_9 m k9
  by_cases k10 : m.kd = 10
  · exact fkd_10 m k10
  by_cases k11 : m.kd = 11
  · exact fkd_11 m k11
  by_cases k12 : m.kd = 12
  · exact fkd_12 m k12
  by_cases k13 : m.kd = 13
  · exact fkd_13 m k13
  by_cases k14 : m.kd = 14
  · exact fkd_14 m k14
  by_cases k15 : m.kd = 15
  · exact fkd_15 m k15
  have hf : fieldsOf m.kd = [] := by unfold fieldsOf; simp only [k1, k2, k3, k4, k5, k6, k7, k8, k9, k10, k11, k12, k13, k14, k15, if_false, or_self]
  have h1 : m.formed = false := by unfold T.Ms.formed T.Ms.fit; rw [hf]; simp
  have h2 : m.rformed = false := by
    unfold T.Ms.rformed
    by_cases q : m.kd < 1
    · simp [q]
    · have : m.kd > 15 := by omega
      simp [this]
  rw [h1, h2]
end Go.Proofs.YtjofjpmhokjhnaaDoor

namespace Go.Proofs.YtjofjpmhokjhnaaDoor
set_option maxRecDepth 20001
open Go.RowKit T
set_option linter.unusedSimpArgs false
set_option linter.unusedVariables false

theorem small_dt {m : Ms} (h : m.small) : m.dt.length ≤ 1099511627776 := by unfold T.Ms.small at h; omega
/-- the reference's Same -/
def T.Ms.rsame (a b : Ms) : Bool := (bif ((((((((!decide (a.kd = b.kd)) || (!decide (a.br = b.br ∧ a.bn = b.bn))) || (!decide (a.sl = b.sl))) || (!(a.ha == b.ha))) || (!decide (a.vr = b.vr ∧ a.vn = b.vn))) || (!decide (a.ii = b.ii ∧ a.ij = b.ij))) || (!decide (a.g = b.g))) || (!decide ((a.st : Int) = (b.st : Int)))) then false else (bif ((((((!(a.ye == b.ye)) || (!decide (a.nu = b.nu))) || (!(a.ky.data.toList == b.ky.data.toList))) || (!decide ((a.ve : Int) = (b.ve : Int)))) || (!decide (a.vk = b.vk ∧ a.vb = b.vb ∧ a.vt.data.toList = b.vt.data.toList))) || (!decide (a.er = b.er))) then false else ((SameC a.c b.c && SameT a.t b.t) && decide (a.dt = b.dt))))
set_option maxHeartbeats 25600000 in
theorem rmsame0 (a b : Ms) (w : World) (B0 : Nat) (hB : B0 ≤ w.heap.size) (oka : MsOk w B0 a) (okb : MsOk w B0 b) (sa : a.small) (sb : b.small) :
    Calls Tryd.prog 19 #[.agg a.cells.toArray, .agg b.cells.toArray] w fun e w' => e = .returned (.bool (T.Ms.rsame a b)) ∧ Below w.heap.size w w' := by
  have ee : Below w.heap.size w w := Below.refl _ _
  go_enter Tryd.func19, Tryd.ntmps19
  refine wp_seq_k fun K1 hK1 => ?_
  refine wp_region_lit ?_
  with_reducible refine ww (.pointer (some ⟨w.heap.size, 0, none⟩)) (w.alloc (.cells (a.cells).toArray 47)) ?_
  try simp only [nP, nN, nA, n0, nS]
  have sz_g2 := ee.size
  have sz_ := ee.size
  have ee := ee.alloc ee.size (.cells (a.cells).toArray 47)
  have Zb2 := hpN w (.cells (a.cells).toArray 47) rfl
  generalize w.alloc (.cells (a.cells).toArray 47) = z1 at Zb2 ee ⊢
  obtain ⟨g2, hg_g2⟩ : ∃ g_, g_ = w.heap.size := ⟨_, rfl⟩
  have hB_g2 : w.heap.size ≤ g2 := by rw [hg_g2]; exact sz_g2
  rw [← hg_g2] at Zb2 ⊢
  clear hg_g2
  with_reducible refine ww (.pointer (some ⟨z1.heap.size, 0, none⟩)) (z1.alloc (.cells (b.cells).toArray 47)) ?_
  try simp only [nP, nN, nA, n0, nS]
  have sz_g3 := ee.size
  have lZb2 := (Array.getElem?_eq_some_iff.1 Zb2).1
  have sz_ := ee.size
  have Zb2 := hpA Zb2 (.cells (b.cells).toArray 47)
  have ee := ee.alloc ee.size (.cells (b.cells).toArray 47)
  have Zb3 := hpN z1 (.cells (b.cells).toArray 47) rfl
  generalize z1.alloc (.cells (b.cells).toArray 47) = z2 at Zb2 Zb3 ee ⊢
  obtain ⟨g3, hg_g3⟩ : ∃ g_, g_ = z1.heap.size := ⟨_, rfl⟩
  have n_g3_Zb2 : g2 < g3 := by rw [hg_g3]; exact lZb2
  have hB_g3 : w.heap.size ≤ g3 := by rw [hg_g3]; exact sz_g3
  rw [← hg_g3] at Zb3 ⊢
  clear hg_g3 lZb2
  with_reducible refine wv (.bool false) ?_
  try simp only [nP, nN, nA, n0, nS]
  refine wpList_nil ?_
  refine hK1 _ _ ?_
  refine wp_seq_k fun K4 hK4 => ?_
  refine wp_seq_k fun K5 hK5 => ?_
  have hjK5 : ∀ (u5 u6 u7 u8 u9 u10 u11 u12 u13 u14 u15 u16 u17 u18 u19 u20 u21 u22 u23 u24 u25 u26 u27 u28 u29 u30 u31 u32 u33 u34 u35 u36 u37 u38 u39 u40 u41 u42 u43 u44 u45 u46 u47 u48 u49 u50 u51 u52 u53 u54 u55 u56 u57 : Value) (b7 : Bool) (zc5 : World), zc5.heap[g2]? = some (.cells (a.cells).toArray 47 (0, 0)) → zc5.heap[g3]? = some (.cells (b.cells).toArray 47 (0, 0)) → Below w.heap.size w zc5 → ((((((((!decide (a.kd = b.kd)) || (!decide (a.br = b.br ∧ a.bn = b.bn))) || (!decide (a.sl = b.sl))) || (!(a.ha == b.ha))) || (!decide (a.vr = b.vr ∧ a.vn = b.vn))) || (!decide (a.ii = b.ii ∧ a.ij = b.ij))) || (!decide (a.g = b.g))) || (!decide ((a.st : Int) = (b.st : Int)))) = b7 → K5 ⟨#[.agg (a.cells).toArray, .agg (b.cells).toArray, .pointer (some ⟨g2, 0, none⟩), .pointer (some ⟨g3, 0, none⟩), .bool false, u5, u6, u7, u8, u9, u10, u11, u12, u13, u14, u15, u16, u17, u18, u19, u20, u21, u22, u23, u24, u25, u26, u27, u28, u29, u30, u31, u32, u33, u34, u35, u36, u37, u38, u39, u40, u41, u42, u43, u44, u45, u46, u47, u48, u49, u50, u51, u52, u53, u54, u55, u56, u57, .bool b7, undef, undef, undef, undef, undef, undef, undef, undef, undef, undef, undef, undef, undef, undef, undef, undef, undef, undef, undef, undef, undef, undef, undef, undef, undef, undef, undef, undef, undef, undef, undef, undef, undef, undef, undef, undef, undef, undef, undef, undef, undef, undef, undef, undef, undef, undef, undef, undef, undef, undef, undef, undef, undef, undef, undef, undef, undef, undef, undef], []⟩ zc5 := by
    clear Zb2 Zb3 ee
    intro u5 u6 u7 u8 u9 u10 u11 u12 u13 u14 u15 u16 u17 u18 u19 u20 u21 u22 u23 u24 u25 u26 u27 u28 u29 u30 u31 u32 u33 u34 u35 u36 u37 u38 u39 u40 u41 u42 u43 u44 u45 u46 u47 u48 u49 u50 u51 u52 u53 u54 u55 u56 u57 b7 zc5 Zb2 Zb3 ee hb7
    refine hK5 _ _ ?_
    cases b7
    · refine wp_cond_false (by kernel_rfl) ?_
      refine wp_skip ?_
      refine hK4 _ _ ?_
      refine wp_seq_k fun K8 hK8 => ?_
      refine wp_seq_k fun K9 hK9 => ?_
      have hjK9 : ∀ (u59 u60 u61 u62 u63 u64 u65 u66 u67 u68 u69 u70 u71 u72 u73 u74 u75 u76 u77 u78 u79 u80 u81 u82 u83 u84 u85 u86 u87 u88 u89 u90 u91 u92 u93 u94 u95 u96 u97 : Value) (b11 : Bool) (zc9 : World), zc9.heap[g2]? = some (.cells (a.cells).toArray 47 (0, 0)) → zc9.heap[g3]? = some (.cells (b.cells).toArray 47 (0, 0)) → Below w.heap.size w zc9 → ((((((!(a.ye == b.ye)) || (!decide (a.nu = b.nu))) || (!(a.ky.data.toList == b.ky.data.toList))) || (!decide ((a.ve : Int) = (b.ve : Int)))) || (!decide (a.vk = b.vk ∧ a.vb = b.vb ∧ a.vt.data.toList = b.vt.data.toList))) || (!decide (a.er = b.er))) = b11 → K9 ⟨#[.agg (a.cells).toArray, .agg (b.cells).toArray, .pointer (some ⟨g2, 0, none⟩), .pointer (some ⟨g3, 0, none⟩), .bool false, u5, u6, u7, u8, u9, u10, u11, u12, u13, u14, u15, u16, u17, u18, u19, u20, u21, u22, u23, u24, u25, u26, u27, u28, u29, u30, u31, u32, u33, u34, u35, u36, u37, u38, u39, u40, u41, u42, u43, u44, u45, u46, u47, u48, u49, u50, u51, u52, u53, u54, u55, u56, u57, .bool false, u59, u60, u61, u62, u63, u64, u65, u66, u67, u68, u69, u70, u71, u72, u73, u74, u75, u76, u77, u78, u79, u80, u81, u82, u83, u84, u85, u86, u87, u88, u89, u90, u91, u92, u93, u94, u95, u96, u97, .bool b11, undef, undef, undef, undef, undef, undef, undef, undef, undef, undef, undef, undef, undef, undef, undef, undef, undef, undef, undef], []⟩ zc9 := by
        clear Zb2 Zb3 ee
        intro u59 u60 u61 u62 u63 u64 u65 u66 u67 u68 u69 u70 u71 u72 u73 u74 u75 u76 u77 u78 u79 u80 u81 u82 u83 u84 u85 u86 u87 u88 u89 u90 u91 u92 u93 u94 u95 u96 u97 b11 zc9 Zb2 Zb3 ee hb11
        refine hK9 _ _ ?_
        cases b11
        · refine wp_cond_false (by kernel_rfl) ?_
          refine wp_skip ?_
          refine hK8 _ _ ?_
          refine wp_seq_k fun K12 hK12 => ?_
          have hjK12 : ∀ (u99 u100 u101 u102 u103 u104 u105 u106 u107 u108 u109 u110 u111 u112 u113 u114 u115 u116 u117 : Value) (b14 : Bool) (zc12 : World), zc12.heap[g2]? = some (.cells (a.cells).toArray 47 (0, 0)) → zc12.heap[g3]? = some (.cells (b.cells).toArray 47 (0, 0)) → Below w.heap.size w zc12 → ((SameC a.c b.c && SameT a.t b.t) && decide (a.dt = b.dt)) = b14 → K12 ⟨#[.agg (a.cells).toArray, .agg (b.cells).toArray, .pointer (some ⟨g2, 0, none⟩), .pointer (some ⟨g3, 0, none⟩), .bool b14, u5, u6, u7, u8, u9, u10, u11, u12, u13, u14, u15, u16, u17, u18, u19, u20, u21, u22, u23, u24, u25, u26, u27, u28, u29, u30, u31, u32, u33, u34, u35, u36, u37, u38, u39, u40, u41, u42, u43, u44, u45, u46, u47, u48, u49, u50, u51, u52, u53, u54, u55, u56, u57, .bool false, u59, u60, u61, u62, u63, u64, u65, u66, u67, u68, u69, u70, u71, u72, u73, u74, u75, u76, u77, u78, u79, u80, u81, u82, u83, u84, u85, u86, u87, u88, u89, u90, u91, u92, u93, u94, u95, u96, u97, .bool false, u99, u100, u101, u102, u103, u104, u105, u106, u107, u108, u109, u110, u111, u112, u113, u114, u115, u116, u117], []⟩ zc12 := by
            clear Zb2 Zb3 ee
            intro u99 u100 u101 u102 u103 u104 u105 u106 u107 u108 u109 u110 u111 u112 u113 u114 u115 u116 u117 b14 zc12 Zb2 Zb3 ee hb14
            refine hK12 _ _ ?_
            refine wp_ret ?_
            cases b14
            · exact bodyPost_ret (v := .bool false) (by kernel_rfl) rfl ⟨congrArg (fun b => Ending.returned (.bool b)) (show false = T.Ms.rsame a b from by unfold T.Ms.rsame; first | (simp only [hb7, hb11, hb14]; done) | (simp only [hb7, hb11, hb14]; rfl) | simp [hb7, hb11, hb14]), ee⟩
            exact bodyPost_ret (v := .bool true) (by kernel_rfl) rfl ⟨congrArg (fun b => Ending.returned (.bool b)) (show true = T.Ms.rsame a b from by unfold T.Ms.rsame; first | (simp only [hb7, hb11, hb14]; done) | (simp only [hb7, hb11, hb14]; rfl) | simp [hb7, hb11, hb14]), ee⟩
          refine wp_region_lit ?_
          with_reducible refine wv (.pointer (some ⟨g2, 7, none⟩)) ?_
          try simp only [nP, nN, nA, n0, nS]
          with_reducible refine wg (g2) (7) (a.c.cells) (rowMid Zb2 (7) (partOf 7 (by kernel_rfl))) Tryd.underlying45 ?_
          try simp only [nP, nN, nA, n0, nS]
          with_reducible refine wv (.pointer (some ⟨g3, 7, none⟩)) ?_
          try simp only [nP, nN, nA, n0, nS]
          with_reducible refine wg (g3) (7) (b.c.cells) (rowMid Zb3 (7) (partOf 7 (by kernel_rfl))) Tryd.underlying45 ?_
          try simp only [nP, nN, nA, n0, nS]
          with_reducible refine wc 59 #[.agg (a.c.cells).toArray, .agg (b.c.cells).toArray] (rcs a.c b.c zc9 B0 (Nat.le_trans hB ee.size) (oka.c.below ee hB) (okb.c.below ee hB)) ?_
          rintro e z3 ⟨rfl, t⟩
          refine ⟨_, rfl, ?_⟩
          have Zb2 := hpB Zb2 t
          have Zb3 := hpB Zb3 t
          have ee := ee.trans (t.mono ee.size)
          clear t
          generalize hb15 : SameC a.c b.c = b15
          try simp only [nP, nN, nA, n0, nS]
          with_reducible refine wv (.bool b15) ?_
          try simp only [nP, nN, nA, n0, nS]
          cases b15
          · with_reducible refine wk ?_
            try simp only [nP, nN, nA, n0, nS]
            with_reducible refine wk ?_
            try simp only [nP, nN, nA, n0, nS]
            with_reducible refine wk ?_
            try simp only [nP, nN, nA, n0, nS]
            with_reducible refine wk ?_
            try simp only [nP, nN, nA, n0, nS]
            with_reducible refine wk ?_
            try simp only [nP, nN, nA, n0, nS]
            with_reducible refine wv (.bool false) ?_
            try simp only [nP, nN, nA, n0, nS]
            with_reducible refine wv (.bool false) ?_
            try simp only [nP, nN, nA, n0, nS]
            with_reducible refine wk ?_
            try simp only [nP, nN, nA, n0, nS]
            with_reducible refine wk ?_
            try simp only [nP, nN, nA, n0, nS]
            with_reducible refine wk ?_
            try simp only [nP, nN, nA, n0, nS]
            with_reducible refine wk ?_
            try simp only [nP, nN, nA, n0, nS]
            with_reducible refine wk ?_
            try simp only [nP, nN, nA, n0, nS]
            with_reducible refine wv (.bool false) ?_
            try simp only [nP, nN, nA, n0, nS]
            with_reducible refine wv (.bool false) ?_
            try simp only [nP, nN, nA, n0, nS]
            refine wpList_nil ?_
            exact hjK12 _ _ _ _ _ _ _ _ _ _ _ _ _ _ _ _ _ _ _ false _ Zb2 Zb3 ee (by first | (simp only [hb7, hb11, hb15]; done) | (simp only [hb7, hb11, hb15]; rfl) | simp [hb7, hb11, hb15])
          with_reducible refine wv (.pointer (some ⟨g2, 17, none⟩)) ?_
          try simp only [nP, nN, nA, n0, nS]
          with_reducible refine wg (g2) (17) (a.t.cells) (rowMid Zb2 (17) (partOf 17 (by kernel_rfl))) Tryd.underlying30 ?_
          try simp only [nP, nN, nA, n0, nS]
          with_reducible refine wv (.pointer (some ⟨g3, 17, none⟩)) ?_
          try simp only [nP, nN, nA, n0, nS]
          with_reducible refine wg (g3) (17) (b.t.cells) (rowMid Zb3 (17) (partOf 17 (by kernel_rfl))) Tryd.underlying30 ?_
          try simp only [nP, nN, nA, n0, nS]
          with_reducible refine wc 60 #[.agg (a.t.cells).toArray, .agg (b.t.cells).toArray] (rts a.t b.t z3 B0 (Nat.le_trans hB ee.size) (oka.t.below ee hB) (okb.t.below ee hB)) ?_
          rintro e z4 ⟨rfl, t⟩
          refine ⟨_, rfl, ?_⟩
          have Zb2 := hpB Zb2 t
          have Zb3 := hpB Zb3 t
          have ee := ee.trans (t.mono ee.size)
          clear t
          generalize hb16 : SameT a.t b.t = b16
          try simp only [nP, nN, nA, n0, nS]
          with_reducible refine wv (.bool b16) ?_
          try simp only [nP, nN, nA, n0, nS]
          with_reducible refine wv (.bool b16) ?_
          try simp only [nP, nN, nA, n0, nS]
          cases b16
          · with_reducible refine wk ?_
            try simp only [nP, nN, nA, n0, nS]
            with_reducible refine wk ?_
            try simp only [nP, nN, nA, n0, nS]
            with_reducible refine wk ?_
            try simp only [nP, nN, nA, n0, nS]
            with_reducible refine wk ?_
            try simp only [nP, nN, nA, n0, nS]
            with_reducible refine wk ?_
            try simp only [nP, nN, nA, n0, nS]
            with_reducible refine wv (.bool false) ?_
            try simp only [nP, nN, nA, n0, nS]
            with_reducible refine wv (.bool false) ?_
            try simp only [nP, nN, nA, n0, nS]
            refine wpList_nil ?_
            exact hjK12 _ _ _ _ _ _ _ _ _ _ _ _ _ _ _ _ _ _ _ false _ Zb2 Zb3 ee (by first | (simp only [hb7, hb11, hb15, hb16]; done) | (simp only [hb7, hb11, hb15, hb16]; rfl) | simp [hb7, hb11, hb15, hb16])
          with_reducible refine wv (.pointer (some ⟨g2, 33, none⟩)) ?_
          try simp only [nP, nN, nA, n0, nS]
          with_reducible refine wl (.slice a.D a.dt.length a.dc) ⟨g2, 33, none⟩ (rowCell Zb2 (33) rfl) Tryd.underlying37 ?_
          try simp only [nP, nN, nA, n0, nS]
          with_reducible refine wv (.pointer (some ⟨g3, 33, none⟩)) ?_
          try simp only [nP, nN, nA, n0, nS]
          with_reducible refine wl (.slice b.D b.dt.length b.dc) ⟨g3, 33, none⟩ (rowCell Zb3 (33) rfl) Tryd.underlying37 ?_
          try simp only [nP, nN, nA, n0, nS]
          with_reducible refine wc 22 #[.slice a.D a.dt.length a.dc, .slice b.D b.dt.length b.dc] (samed_any a.D b.D a.dc b.dc a.dt b.dt z4 B0 B0 (small_dt sa) (small_dt sb) (oka.below ee hB).d (okb.below ee hB).d oka.dl okb.dl) ?_
          rintro e z5 ⟨rfl, t⟩
          refine ⟨_, rfl, ?_⟩
          have Zb2 := hpB Zb2 t
          have Zb3 := hpB Zb3 t
          have ee := ee.trans (t.mono ee.size)
          clear t
          generalize hb17 : decide (a.dt = b.dt) = b17
          try simp only [nP, nN, nA, n0, nS]
          with_reducible refine wv (.bool b17) ?_
          try simp only [nP, nN, nA, n0, nS]
          with_reducible refine wv (.bool b17) ?_
          try simp only [nP, nN, nA, n0, nS]
          refine wpList_nil ?_
          exact hjK12 _ _ _ _ _ _ _ _ _ _ _ _ _ _ _ _ _ _ _ b17 _ Zb2 Zb3 ee (by first | (simp only [hb7, hb11, hb15, hb16, hb17]; done) | (simp only [hb7, hb11, hb15, hb16, hb17]; rfl) | simp [hb7, hb11, hb15, hb16, hb17])
        refine wp_cond_true (by kernel_rfl) ?_
        refine wp_seq_k fun K18 hK18 => ?_
        refine wp_region_lit ?_
        with_reducible refine wv (.bool false) ?_
        try simp only [nP, nN, nA, n0, nS]
        refine wpList_nil ?_
        refine hK18 _ _ ?_
        refine wp_ret ?_
        refine then_ret ?_
        exact bodyPost_ret (v := .bool false) (by kernel_rfl) rfl ⟨congrArg (fun b => Ending.returned (.bool b)) (show false = T.Ms.rsame a b from by unfold T.Ms.rsame; first | (simp only [hb7, hb11]; done) | (simp only [hb7, hb11]; rfl) | simp [hb7, hb11]), ee⟩
      refine wp_region_lit ?_
      with_reducible refine wv (.pointer (some ⟨g2, 25, none⟩)) ?_
      try simp only [nP, nN, nA, n0, nS]
      with_reducible refine wl (.bool a.ye) ⟨g2, 25, none⟩ (rowCell Zb2 (25) rfl) Tryd.underlying4 ?_
      generalize hb19 : a.ye = b19
      try simp only [nP, nN, nA, n0, nS]
      with_reducible refine wv (.pointer (some ⟨g3, 25, none⟩)) ?_
      try simp only [nP, nN, nA, n0, nS]
      with_reducible refine wl (.bool b.ye) ⟨g3, 25, none⟩ (rowCell Zb3 (25) rfl) Tryd.underlying4 ?_
      generalize hb20 : b.ye = b20
      try simp only [nP, nN, nA, n0, nS]
      cases b19
      · cases b20
        · with_reducible refine wv (.bool false) ?_
          try simp only [nP, nN, nA, n0, nS]
          with_reducible refine wv (.bool false) ?_
          try simp only [nP, nN, nA, n0, nS]
          with_reducible refine wv (.pointer (some ⟨g2, 26, none⟩)) ?_
          try simp only [nP, nN, nA, n0, nS]
          with_reducible refine wl (.int .i64 a.nu) ⟨g2, 26, none⟩ (rowCell Zb2 (26) rfl) Tryd.underlying3 ?_
          try simp only [nP, nN, nA, n0, nS]
          with_reducible refine wv (.pointer (some ⟨g3, 26, none⟩)) ?_
          try simp only [nP, nN, nA, n0, nS]
          with_reducible refine wl (.int .i64 b.nu) ⟨g3, 26, none⟩ (rowCell Zb3 (26) rfl) Tryd.underlying3 ?_
          try simp only [nP, nN, nA, n0, nS]
          obtain ⟨b21, hb21⟩ : ∃ d_ : Bool, (decide (a.nu = b.nu)) = d_ := ⟨_, rfl⟩
          cases b21
          · have pb21 : ¬ (a.nu = b.nu) := of_decide_eq_false hb21
            with_reducible refine wb (.bool true) (.int .i64 a.nu) (.int .i64 b.nu) 3 (run_neqI hb21) ?_
            try simp only [nP, nN, nA, n0, nS]
            with_reducible refine wv (.bool true) ?_
            try simp only [nP, nN, nA, n0, nS]
            with_reducible refine wv (.bool true) ?_
            try simp only [nP, nN, nA, n0, nS]
            with_reducible refine wk ?_
            try simp only [nP, nN, nA, n0, nS]
            with_reducible refine wk ?_
            try simp only [nP, nN, nA, n0, nS]
            with_reducible refine wk ?_
            try simp only [nP, nN, nA, n0, nS]
            with_reducible refine wk ?_
            try simp only [nP, nN, nA, n0, nS]
            with_reducible refine wk ?_
            try simp only [nP, nN, nA, n0, nS]
            with_reducible refine wv (.bool true) ?_
            try simp only [nP, nN, nA, n0, nS]
            with_reducible refine wv (.bool true) ?_
            try simp only [nP, nN, nA, n0, nS]
            with_reducible refine wk ?_
            try simp only [nP, nN, nA, n0, nS]
            with_reducible refine wk ?_
            try simp only [nP, nN, nA, n0, nS]
            with_reducible refine wk ?_
            try simp only [nP, nN, nA, n0, nS]
            with_reducible refine wk ?_
            try simp only [nP, nN, nA, n0, nS]
            with_reducible refine wk ?_
            try simp only [nP, nN, nA, n0, nS]
            with_reducible refine wv (.bool true) ?_
            try simp only [nP, nN, nA, n0, nS]
            with_reducible refine wv (.bool true) ?_
            try simp only [nP, nN, nA, n0, nS]
            with_reducible refine wk ?_
            try simp only [nP, nN, nA, n0, nS]
            with_reducible refine wk ?_
            try simp only [nP, nN, nA, n0, nS]
            with_reducible refine wk ?_
            try simp only [nP, nN, nA, n0, nS]
            with_reducible refine wk ?_
            try simp only [nP, nN, nA, n0, nS]
            with_reducible refine wk ?_
            try simp only [nP, nN, nA, n0, nS]
            with_reducible refine wv (.bool true) ?_
            try simp only [nP, nN, nA, n0, nS]
            with_reducible refine wv (.bool true) ?_
            try simp only [nP, nN, nA, n0, nS]
            with_reducible refine wk ?_
            try simp only [nP, nN, nA, n0, nS]
            with_reducible refine wk ?_
            try simp only [nP, nN, nA, n0, nS]
            with_reducible refine wk ?_
            try simp only [nP, nN, nA, n0, nS]
            with_reducible refine wk ?_
            try simp only [nP, nN, nA, n0, nS]
            with_reducible refine wk ?_
            try simp only [nP, nN, nA, n0, nS]
            with_reducible refine wv (.bool true) ?_
            try simp only [nP, nN, nA, n0, nS]
            refine wpList_nil ?_
            exact hjK9 _ _ _ _ _ _ _ _ _ _ _ _ _ _ _ _ _ _ _ _ _ _ _ _ _ _ _ _ _ _ _ _ _ _ _ _ _ _ _ true _ Zb2 Zb3 ee (by first | (simp only [hb7, hb19, hb20, hb21]; done) | (simp only [hb7, hb19, hb20, hb21]; rfl) | simp [hb7, hb19, hb20, hb21])
          have pb21 : a.nu = b.nu := of_decide_eq_true hb21
          with_reducible refine wb (.bool false) (.int .i64 a.nu) (.int .i64 b.nu) 3 (run_neqI hb21) ?_
          try simp only [nP, nN, nA, n0, nS]
          with_reducible refine wv (.bool false) ?_
          try simp only [nP, nN, nA, n0, nS]
          with_reducible refine wv (.bool false) ?_
          try simp only [nP, nN, nA, n0, nS]
          with_reducible refine wv (.pointer (some ⟨g2, 27, none⟩)) ?_
          try simp only [nP, nN, nA, n0, nS]
          with_reducible refine wl (.string a.ky) ⟨g2, 27, none⟩ (rowCell Zb2 (27) rfl) Tryd.underlying9 ?_
          try simp only [nP, nN, nA, n0, nS]
          with_reducible refine wv (.pointer (some ⟨g3, 27, none⟩)) ?_
          try simp only [nP, nN, nA, n0, nS]
          with_reducible refine wl (.string b.ky) ⟨g3, 27, none⟩ (rowCell Zb3 (27) rfl) Tryd.underlying9 ?_
          try simp only [nP, nN, nA, n0, nS]
          obtain ⟨b22, hb22⟩ : ∃ d_ : Bool, ((a.ky.data.toList == b.ky.data.toList)) = d_ := ⟨_, rfl⟩
          cases b22
          · with_reducible refine wb (.bool true) (.string a.ky) (.string b.ky) 9 (run_sneB hb22) ?_
            try simp only [nP, nN, nA, n0, nS]
            with_reducible refine wv (.bool true) ?_
            try simp only [nP, nN, nA, n0, nS]
            with_reducible refine wv (.bool true) ?_
            try simp only [nP, nN, nA, n0, nS]
            with_reducible refine wk ?_
            try simp only [nP, nN, nA, n0, nS]
            with_reducible refine wk ?_
            try simp only [nP, nN, nA, n0, nS]
            with_reducible refine wk ?_
            try simp only [nP, nN, nA, n0, nS]
            with_reducible refine wk ?_
            try simp only [nP, nN, nA, n0, nS]
            with_reducible refine wk ?_
            try simp only [nP, nN, nA, n0, nS]
            with_reducible refine wv (.bool true) ?_
            try simp only [nP, nN, nA, n0, nS]
            with_reducible refine wv (.bool true) ?_
            try simp only [nP, nN, nA, n0, nS]
            with_reducible refine wk ?_
            try simp only [nP, nN, nA, n0, nS]
            with_reducible refine wk ?_
            try simp only [nP, nN, nA, n0, nS]
            with_reducible refine wk ?_
            try simp only [nP, nN, nA, n0, nS]
            with_reducible refine wk ?_
            try simp only [nP, nN, nA, n0, nS]
            with_reducible refine wk ?_
            try simp only [nP, nN, nA, n0, nS]
            with_reducible refine wv (.bool true) ?_
            try simp only [nP, nN, nA, n0, nS]
            with_reducible refine wv (.bool true) ?_
            try simp only [nP, nN, nA, n0, nS]
            with_reducible refine wk ?_
            try simp only [nP, nN, nA, n0, nS]
            with_reducible refine wk ?_
            try simp only [nP, nN, nA, n0, nS]
            with_reducible refine wk ?_
            try simp only [nP, nN, nA, n0, nS]
            with_reducible refine wk ?_
            try simp only [nP, nN, nA, n0, nS]
            with_reducible refine wk ?_
            try simp only [nP, nN, nA, n0, nS]
            with_reducible refine wv (.bool true) ?_
            try simp only [nP, nN, nA, n0, nS]
            refine wpList_nil ?_
            exact hjK9 _ _ _ _ _ _ _ _ _ _ _ _ _ _ _ _ _ _ _ _ _ _ _ _ _ _ _ _ _ _ _ _ _ _ _ _ _ _ _ true _ Zb2 Zb3 ee (by first | (simp only [hb7, hb19, hb20, hb21, hb22]; done) | (simp only [hb7, hb19, hb20, hb21, hb22]; rfl) | simp [hb7, hb19, hb20, hb21, hb22])
          with_reducible refine wb (.bool false) (.string a.ky) (.string b.ky) 9 (run_sneB hb22) ?_
          try simp only [nP, nN, nA, n0, nS]
          with_reducible refine wv (.bool false) ?_
          try simp only [nP, nN, nA, n0, nS]
          with_reducible refine wv (.bool false) ?_
          try simp only [nP, nN, nA, n0, nS]
          with_reducible refine wv (.pointer (some ⟨g2, 28, none⟩)) ?_
          try simp only [nP, nN, nA, n0, nS]
          with_reducible refine wl (.int .u64 ((a.ve : Int))) ⟨g2, 28, none⟩ (rowCell Zb2 (28) rfl) Tryd.underlying31 ?_
          try simp only [nP, nN, nA, n0, nS]
          with_reducible refine wv (.pointer (some ⟨g3, 28, none⟩)) ?_
          try simp only [nP, nN, nA, n0, nS]
          with_reducible refine wl (.int .u64 ((b.ve : Int))) ⟨g3, 28, none⟩ (rowCell Zb3 (28) rfl) Tryd.underlying31 ?_
          try simp only [nP, nN, nA, n0, nS]
          obtain ⟨b23, hb23⟩ : ∃ d_ : Bool, (decide ((a.ve : Int) = (b.ve : Int))) = d_ := ⟨_, rfl⟩
          cases b23
          · have pb23 : ¬ ((a.ve : Int) = (b.ve : Int)) := of_decide_eq_false hb23
            with_reducible refine wb (.bool true) (.int .u64 ((a.ve : Int))) (.int .u64 ((b.ve : Int))) 31 (run_neqI hb23) ?_
            try simp only [nP, nN, nA, n0, nS]
            with_reducible refine wv (.bool true) ?_
            try simp only [nP, nN, nA, n0, nS]
            with_reducible refine wv (.bool true) ?_
            try simp only [nP, nN, nA, n0, nS]
            with_reducible refine wk ?_
            try simp only [nP, nN, nA, n0, nS]
            with_reducible refine wk ?_
            try simp only [nP, nN, nA, n0, nS]
            with_reducible refine wk ?_
            try simp only [nP, nN, nA, n0, nS]
            with_reducible refine wk ?_
            try simp only [nP, nN, nA, n0, nS]
            with_reducible refine wk ?_
            try simp only [nP, nN, nA, n0, nS]
            with_reducible refine wv (.bool true) ?_
            try simp only [nP, nN, nA, n0, nS]
            with_reducible refine wv (.bool true) ?_
            try simp only [nP, nN, nA, n0, nS]
            with_reducible refine wk ?_
            try simp only [nP, nN, nA, n0, nS]
            with_reducible refine wk ?_
            try simp only [nP, nN, nA, n0, nS]
            with_reducible refine wk ?_
            try simp only [nP, nN, nA, n0, nS]
            with_reducible refine wk ?_
            try simp only [nP, nN, nA, n0, nS]
            with_reducible refine wk ?_
            try simp only [nP, nN, nA, n0, nS]
            with_reducible refine wv (.bool true) ?_
            try simp only [nP, nN, nA, n0, nS]
            refine wpList_nil ?_
            exact hjK9 _ _ _ _ _ _ _ _ _ _ _ _ _ _ _ _ _ _ _ _ _ _ _ _ _ _ _ _ _ _ _ _ _ _ _ _ _ _ _ true _ Zb2 Zb3 ee (by first | (simp only [hb7, hb19, hb20, hb21, hb22, hb23]; done) | (simp only [hb7, hb19, hb20, hb21, hb22, hb23]; rfl) | simp [hb7, hb19, hb20, hb21, hb22, hb23])
          have pb23 : (a.ve : Int) = (b.ve : Int) := of_decide_eq_true hb23
          with_reducible refine wb (.bool false) (.int .u64 ((a.ve : Int))) (.int .u64 ((b.ve : Int))) 31 (run_neqI hb23) ?_
          try simp only [nP, nN, nA, n0, nS]
          with_reducible refine wv (.bool false) ?_
          try simp only [nP, nN, nA, n0, nS]
          with_reducible refine wv (.bool false) ?_
          try simp only [nP, nN, nA, n0, nS]
          with_reducible refine wv (.pointer (some ⟨g2, 29, none⟩)) ?_
          try simp only [nP, nN, nA, n0, nS]
          with_reducible refine wg (g2) (29) ([.int .i64 a.vk, .int .u64 (a.vb : Int), .string a.vt]) (rowMid Zb2 (29) (partOf 29 (by kernel_rfl))) Tryd.underlying35 ?_
          try simp only [nP, nN, nA, n0, nS]
          with_reducible refine wv (.pointer (some ⟨g3, 29, none⟩)) ?_
          try simp only [nP, nN, nA, n0, nS]
          with_reducible refine wg (g3) (29) ([.int .i64 b.vk, .int .u64 (b.vb : Int), .string b.vt]) (rowMid Zb3 (29) (partOf 29 (by kernel_rfl))) Tryd.underlying35 ?_
          try simp only [nP, nN, nA, n0, nS]
          obtain ⟨b24, hb24⟩ : ∃ d_ : Bool, (decide (a.vk = b.vk ∧ a.vb = b.vb ∧ a.vt.data.toList = b.vt.data.toList)) = d_ := ⟨_, rfl⟩
          cases b24
          · with_reducible refine wb (.bool true) (.agg ([.int .i64 a.vk, .int .u64 (a.vb : Int), .string a.vt]).toArray) (.agg ([.int .i64 b.vk, .int .u64 (b.vb : Int), .string b.vt]).toArray) 35 (run_neOfEq (by have := run_eqvD a.vk a.vb a.vt b.vk b.vb b.vt zc5; rw [hb24] at this; exact this)) ?_
            try simp only [nP, nN, nA, n0, nS]
            with_reducible refine wv (.bool true) ?_
            try simp only [nP, nN, nA, n0, nS]
            with_reducible refine wv (.bool true) ?_
            try simp only [nP, nN, nA, n0, nS]
            with_reducible refine wk ?_
            try simp only [nP, nN, nA, n0, nS]
            with_reducible refine wk ?_
            try simp only [nP, nN, nA, n0, nS]
            with_reducible refine wk ?_
            try simp only [nP, nN, nA, n0, nS]
            with_reducible refine wk ?_
            try simp only [nP, nN, nA, n0, nS]
            with_reducible refine wk ?_
            try simp only [nP, nN, nA, n0, nS]
            with_reducible refine wv (.bool true) ?_
            try simp only [nP, nN, nA, n0, nS]
            refine wpList_nil ?_
            exact hjK9 _ _ _ _ _ _ _ _ _ _ _ _ _ _ _ _ _ _ _ _ _ _ _ _ _ _ _ _ _ _ _ _ _ _ _ _ _ _ _ true _ Zb2 Zb3 ee (by first | (simp only [hb7, hb19, hb20, hb21, hb22, hb23, hb24]; done) | (simp only [hb7, hb19, hb20, hb21, hb22, hb23, hb24]; rfl) | simp [hb7, hb19, hb20, hb21, hb22, hb23, hb24])
          with_reducible refine wb (.bool false) (.agg ([.int .i64 a.vk, .int .u64 (a.vb : Int), .string a.vt]).toArray) (.agg ([.int .i64 b.vk, .int .u64 (b.vb : Int), .string b.vt]).toArray) 35 (run_neOfEq (by have := run_eqvD a.vk a.vb a.vt b.vk b.vb b.vt zc5; rw [hb24] at this; exact this)) ?_
          try simp only [nP, nN, nA, n0, nS]
          with_reducible refine wv (.bool false) ?_
          try simp only [nP, nN, nA, n0, nS]
          with_reducible refine wv (.bool false) ?_
          try simp only [nP, nN, nA, n0, nS]
          with_reducible refine wv (.pointer (some ⟨g2, 32, none⟩)) ?_
          try simp only [nP, nN, nA, n0, nS]
          with_reducible refine wl (.int .i64 a.er) ⟨g2, 32, none⟩ (rowCell Zb2 (32) rfl) Tryd.underlying36 ?_
          try simp only [nP, nN, nA, n0, nS]
          with_reducible refine wv (.pointer (some ⟨g3, 32, none⟩)) ?_
          try simp only [nP, nN, nA, n0, nS]
          with_reducible refine wl (.int .i64 b.er) ⟨g3, 32, none⟩ (rowCell Zb3 (32) rfl) Tryd.underlying36 ?_
          try simp only [nP, nN, nA, n0, nS]
          obtain ⟨b25, hb25⟩ : ∃ d_ : Bool, (decide (a.er = b.er)) = d_ := ⟨_, rfl⟩
          cases b25
          · have pb25 : ¬ (a.er = b.er) := of_decide_eq_false hb25
            with_reducible refine wb (.bool true) (.int .i64 a.er) (.int .i64 b.er) 36 (run_neqI hb25) ?_
            try simp only [nP, nN, nA, n0, nS]
            with_reducible refine wv (.bool true) ?_
            try simp only [nP, nN, nA, n0, nS]
            refine wpList_nil ?_
            exact hjK9 _ _ _ _ _ _ _ _ _ _ _ _ _ _ _ _ _ _ _ _ _ _ _ _ _ _ _ _ _ _ _ _ _ _ _ _ _ _ _ true _ Zb2 Zb3 ee (by first | (simp only [hb7, hb19, hb20, hb21, hb22, hb23, hb24, hb25]; done) | (simp only [hb7, hb19, hb20, hb21, hb22, hb23, hb24, hb25]; rfl) | simp [hb7, hb19, hb20, hb21, hb22, hb23, hb24, hb25])
          have pb25 : a.er = b.er := of_decide_eq_true hb25
          with_reducible refine wb (.bool false) (.int .i64 a.er) (.int .i64 b.er) 36 (run_neqI hb25) ?_
          try simp only [nP, nN, nA, n0, nS]
          with_reducible refine wv (.bool false) ?_
          try simp only [nP, nN, nA, n0, nS]
          refine wpList_nil ?_
          exact hjK9 _ _ _ _ _ _ _ _ _ _ _ _ _ _ _ _ _ _ _ _ _ _ _ _ _ _ _ _ _ _ _ _ _ _ _ _ _ _ _ false _ Zb2 Zb3 ee (by first | (simp only [hb7, hb19, hb20, hb21, hb22, hb23, hb24, hb25]; done) | (simp only [hb7, hb19, hb20, hb21, hb22, hb23, hb24, hb25]; rfl) | simp [hb7, hb19, hb20, hb21, hb22, hb23, hb24, hb25])
        with_reducible refine wv (.bool true) ?_
        try simp only [nP, nN, nA, n0, nS]
        with_reducible refine wv (.bool true) ?_
        try simp only [nP, nN, nA, n0, nS]
        with_reducible refine wk ?_
        try simp only [nP, nN, nA, n0, nS]
        with_reducible refine wk ?_
        try simp only [nP, nN, nA, n0, nS]
        with_reducible refine wk ?_
        try simp only [nP, nN, nA, n0, nS]
        with_reducible refine wk ?_
        try simp only [nP, nN, nA, n0, nS]
        with_reducible refine wk ?_
        try simp only [nP, nN, nA, n0, nS]
        with_reducible refine wv (.bool true) ?_
        try simp only [nP, nN, nA, n0, nS]
        with_reducible refine wv (.bool true) ?_
        try simp only [nP, nN, nA, n0, nS]
        with_reducible refine wk ?_
        try simp only [nP, nN, nA, n0, nS]
        with_reducible refine wk ?_
        try simp only [nP, nN, nA, n0, nS]
        with_reducible refine wk ?_
        try simp only [nP, nN, nA, n0, nS]
        with_reducible refine wk ?_
        try simp only [nP, nN, nA, n0, nS]
        with_reducible refine wk ?_
        try simp only [nP, nN, nA, n0, nS]
        with_reducible refine wv (.bool true) ?_
        try simp only [nP, nN, nA, n0, nS]
        with_reducible refine wv (.bool true) ?_
        try simp only [nP, nN, nA, n0, nS]
        with_reducible refine wk ?_
        try simp only [nP, nN, nA, n0, nS]
        with_reducible refine wk ?_
        try simp only [nP, nN, nA, n0, nS]
        with_reducible refine wk ?_
        try simp only [nP, nN, nA, n0, nS]
        with_reducible refine wk ?_
        try simp only [nP, nN, nA, n0, nS]
        with_reducible refine wk ?_
        try simp only [nP, nN, nA, n0, nS]
        with_reducible refine wv (.bool true) ?_
        try simp only [nP, nN, nA, n0, nS]
        with_reducible refine wv (.bool true) ?_
        try simp only [nP, nN, nA, n0, nS]
        with_reducible refine wk ?_
        try simp only [nP, nN, nA, n0, nS]
        with_reducible refine wk ?_
        try simp only [nP, nN, nA, n0, nS]
        with_reducible refine wk ?_
        try simp only [nP, nN, nA, n0, nS]
        with_reducible refine wk ?_
        try simp only [nP, nN, nA, n0, nS]
        with_reducible refine wk ?_
        try simp only [nP, nN, nA, n0, nS]
        with_reducible refine wv (.bool true) ?_
        try simp only [nP, nN, nA, n0, nS]
        with_reducible refine wv (.bool true) ?_
        try simp only [nP, nN, nA, n0, nS]
        with_reducible refine wk ?_
        try simp only [nP, nN, nA, n0, nS]
        with_reducible refine wk ?_
        try simp only [nP, nN, nA, n0, nS]
        with_reducible refine wk ?_
        try simp only [nP, nN, nA, n0, nS]
        with_reducible refine wk ?_
        try simp only [nP, nN, nA, n0, nS]
        with_reducible refine wk ?_
        try simp only [nP, nN, nA, n0, nS]
        with_reducible refine wv (.bool true) ?_
        try simp only [nP, nN, nA, n0, nS]
        refine wpList_nil ?_
        exact hjK9 _ _ _ _ _ _ _ _ _ _ _ _ _ _ _ _ _ _ _ _ _ _ _ _ _ _ _ _ _ _ _ _ _ _ _ _ _ _ _ true _ Zb2 Zb3 ee (by first | (simp only [hb7, hb19, hb20]; done) | (simp only [hb7, hb19, hb20]; rfl) | simp [hb7, hb19, hb20])
      cases b20
      · with_reducible refine wv (.bool true) ?_
        try simp only [nP, nN, nA, n0, nS]
        with_reducible refine wv (.bool true) ?_
        try simp only [nP, nN, nA, n0, nS]
        with_reducible refine wk ?_
        try simp only [nP, nN, nA, n0, nS]
        with_reducible refine wk ?_
        try simp only [nP, nN, nA, n0, nS]
        with_reducible refine wk ?_
        try simp only [nP, nN, nA, n0, nS]
        with_reducible refine wk ?_
        try simp only [nP, nN, nA, n0, nS]
        with_reducible refine wk ?_
        try simp only [nP, nN, nA, n0, nS]
        with_reducible refine wv (.bool true) ?_
        try simp only [nP, nN, nA, n0, nS]
        with_reducible refine wv (.bool true) ?_
        try simp only [nP, nN, nA, n0, nS]
        with_reducible refine wk ?_
        try simp only [nP, nN, nA, n0, nS]
        with_reducible refine wk ?_
        try simp only [nP, nN, nA, n0, nS]
        with_reducible refine wk ?_
        try simp only [nP, nN, nA, n0, nS]
        with_reducible refine wk ?_
        try simp only [nP, nN, nA, n0, nS]
        with_reducible refine wk ?_
        try simp only [nP, nN, nA, n0, nS]
        with_reducible refine wv (.bool true) ?_
        try simp only [nP, nN, nA, n0, nS]
        with_reducible refine wv (.bool true) ?_
        try simp only [nP, nN, nA, n0, nS]
        with_reducible refine wk ?_
        try simp only [nP, nN, nA, n0, nS]
        with_reducible refine wk ?_
        try simp only [nP, nN, nA, n0, nS]
        with_reducible refine wk ?_
        try simp only [nP, nN, nA, n0, nS]
        with_reducible refine wk ?_
        try simp only [nP, nN, nA, n0, nS]
        with_reducible refine wk ?_
        try simp only [nP, nN, nA, n0, nS]
        with_reducible refine wv (.bool true) ?_
        try simp only [nP, nN, nA, n0, nS]
        with_reducible refine wv (.bool true) ?_
        try simp only [nP, nN, nA, n0, nS]
        with_reducible refine wk ?_
        try simp only [nP, nN, nA, n0, nS]
        with_reducible refine wk ?_
        try simp only [nP, nN, nA, n0, nS]
        with_reducible refine wk ?_
        try simp only [nP, nN, nA, n0, nS]
        with_reducible refine wk ?_
        try simp only [nP, nN, nA, n0, nS]
        with_reducible refine wk ?_
        try simp only [nP, nN, nA, n0, nS]
        with_reducible refine wv (.bool true) ?_
        try simp only [nP, nN, nA, n0, nS]
        with_reducible refine wv (.bool true) ?_
        try simp only [nP, nN, nA, n0, nS]
        with_reducible refine wk ?_
        try simp only [nP, nN, nA, n0, nS]
        with_reducible refine wk ?_
        try simp only [nP, nN, nA, n0, nS]
        with_reducible refine wk ?_
        try simp only [nP, nN, nA, n0, nS]
        with_reducible refine wk ?_
        try simp only [nP, nN, nA, n0, nS]
        with_reducible refine wk ?_
        try simp only [nP, nN, nA, n0, nS]
        with_reducible refine wv (.bool true) ?_
        try simp only [nP, nN, nA, n0, nS]
        refine wpList_nil ?_
        exact hjK9 _ _ _ _ _ _ _ _ _ _ _ _ _ _ _ _ _ _ _ _ _ _ _ _ _ _ _ _ _ _ _ _ _ _ _ _ _ _ _ true _ Zb2 Zb3 ee (by first | (simp only [hb7, hb19, hb20]; done) | (simp only [hb7, hb19, hb20]; rfl) | simp [hb7, hb19, hb20])
      with_reducible refine wv (.bool false) ?_
      try simp only [nP, nN, nA, n0, nS]
      with_reducible refine wv (.bool false) ?_
      try simp only [nP, nN, nA, n0, nS]
      with_reducible refine wv (.pointer (some ⟨g2, 26, none⟩)) ?_
      try simp only [nP, nN, nA, n0, nS]
      with_reducible refine wl (.int .i64 a.nu) ⟨g2, 26, none⟩ (rowCell Zb2 (26) rfl) Tryd.underlying3 ?_
      try simp only [nP, nN, nA, n0, nS]
      with_reducible refine wv (.pointer (some ⟨g3, 26, none⟩)) ?_
      try simp only [nP, nN, nA, n0, nS]
      with_reducible refine wl (.int .i64 b.nu) ⟨g3, 26, none⟩ (rowCell Zb3 (26) rfl) Tryd.underlying3 ?_
      try simp only [nP, nN, nA, n0, nS]
      obtain ⟨b26, hb26⟩ : ∃ d_ : Bool, (decide (a.nu = b.nu)) = d_ := ⟨_, rfl⟩
      cases b26
      · have pb26 : ¬ (a.nu = b.nu) := of_decide_eq_false hb26
        with_reducible refine wb (.bool true) (.int .i64 a.nu) (.int .i64 b.nu) 3 (run_neqI hb26) ?_
        try simp only [nP, nN, nA, n0, nS]
        with_reducible refine wv (.bool true) ?_
        try simp only [nP, nN, nA, n0, nS]
        with_reducible refine wv (.bool true) ?_
        try simp only [nP, nN, nA, n0, nS]
        with_reducible refine wk ?_
        try simp only [nP, nN, nA, n0, nS]
        with_reducible refine wk ?_
        try simp only [nP, nN, nA, n0, nS]
        with_reducible refine wk ?_
        try simp only [nP, nN, nA, n0, nS]
        with_reducible refine wk ?_
        try simp only [nP, nN, nA, n0, nS]
        with_reducible refine wk ?_
        try simp only [nP, nN, nA, n0, nS]
        with_reducible refine wv (.bool true) ?_
        try simp only [nP, nN, nA, n0, nS]
        with_reducible refine wv (.bool true) ?_
        try simp only [nP, nN, nA, n0, nS]
        with_reducible refine wk ?_
        try simp only [nP, nN, nA, n0, nS]
        with_reducible refine wk ?_
        try simp only [nP, nN, nA, n0, nS]
        with_reducible refine wk ?_
        try simp only [nP, nN, nA, n0, nS]
        with_reducible refine wk ?_
        try simp only [nP, nN, nA, n0, nS]
        with_reducible refine wk ?_
        try simp only [nP, nN, nA, n0, nS]
        with_reducible refine wv (.bool true) ?_
        try simp only [nP, nN, nA, n0, nS]
        with_reducible refine wv (.bool true) ?_
        try simp only [nP, nN, nA, n0, nS]
        with_reducible refine wk ?_
        try simp only [nP, nN, nA, n0, nS]
        with_reducible refine wk ?_
        try simp only [nP, nN, nA, n0, nS]
        with_reducible refine wk ?_
        try simp only [nP, nN, nA, n0, nS]
        with_reducible refine wk ?_
        try simp only [nP, nN, nA, n0, nS]
        with_reducible refine wk ?_
        try simp only [nP, nN, nA, n0, nS]
        with_reducible refine wv (.bool true) ?_
        try simp only [nP, nN, nA, n0, nS]
        with_reducible refine wv (.bool true) ?_
        try simp only [nP, nN, nA, n0, nS]
        with_reducible refine wk ?_
        try simp only [nP, nN, nA, n0, nS]
        with_reducible refine wk ?_
        try simp only [nP, nN, nA, n0, nS]
        with_reducible refine wk ?_
        try simp only [nP, nN, nA, n0, nS]
        with_reducible refine wk ?_
        try simp only [nP, nN, nA, n0, nS]
        with_reducible refine wk ?_
        try simp only [nP, nN, nA, n0, nS]
        with_reducible refine wv (.bool true) ?_
        try simp only [nP, nN, nA, n0, nS]
        refine wpList_nil ?_
        exact hjK9 _ _ _ _ _ _ _ _ _ _ _ _ _ _ _ _ _ _ _ _ _ _ _ _ _ _ _ _ _ _ _ _ _ _ _ _ _ _ _ true _ Zb2 Zb3 ee (by first | (simp only [hb7, hb19, hb20, hb26]; done) | (simp only [hb7, hb19, hb20, hb26]; rfl) | simp [hb7, hb19, hb20, hb26])
      have pb26 : a.nu = b.nu := of_decide_eq_true hb26
      with_reducible refine wb (.bool false) (.int .i64 a.nu) (.int .i64 b.nu) 3 (run_neqI hb26) ?_
      try simp only [nP, nN, nA, n0, nS]
      with_reducible refine wv (.bool false) ?_
      try simp only [nP, nN, nA, n0, nS]
      with_reducible refine wv (.bool false) ?_
      try simp only [nP, nN, nA, n0, nS]
      with_reducible refine wv (.pointer (some ⟨g2, 27, none⟩)) ?_
      try simp only [nP, nN, nA, n0, nS]
      with_reducible refine wl (.string a.ky) ⟨g2, 27, none⟩ (rowCell Zb2 (27) rfl) Tryd.underlying9 ?_
      try simp only [nP, nN, nA, n0, nS]
      with_reducible refine wv (.pointer (some ⟨g3, 27, none⟩)) ?_
      try simp only [nP, nN, nA, n0, nS]
      with_reducible refine wl (.string b.ky) ⟨g3, 27, none⟩ (rowCell Zb3 (27) rfl) Tryd.underlying9 ?_
      try simp only [nP, nN, nA, n0, nS]
      obtain ⟨b27, hb27⟩ : ∃ d_ : Bool, ((a.ky.data.toList == b.ky.data.toList)) = d_ := ⟨_, rfl⟩
      cases b27
      · with_reducible refine wb (.bool true) (.string a.ky) (.string b.ky) 9 (run_sneB hb27) ?_
        try simp only [nP, nN, nA, n0, nS]
        with_reducible refine wv (.bool true) ?_
        try simp only [nP, nN, nA, n0, nS]
        with_reducible refine wv (.bool true) ?_
        try simp only [nP, nN, nA, n0, nS]
        with_reducible refine wk ?_
        try simp only [nP, nN, nA, n0, nS]
        with_reducible refine wk ?_
        try simp only [nP, nN, nA, n0, nS]
        with_reducible refine wk ?_
        try simp only [nP, nN, nA, n0, nS]
        with_reducible refine wk ?_
        try simp only [nP, nN, nA, n0, nS]
        with_reducible refine wk ?_
        try simp only [nP, nN, nA, n0, nS]
        with_reducible refine wv (.bool true) ?_
        try simp only [nP, nN, nA, n0, nS]
        with_reducible refine wv (.bool true) ?_
        try simp only [nP, nN, nA, n0, nS]
        with_reducible refine wk ?_
        try simp only [nP, nN, nA, n0, nS]
        with_reducible refine wk ?_
        try simp only [nP, nN, nA, n0, nS]
        with_reducible refine wk ?_
        try simp only [nP, nN, nA, n0, nS]
        with_reducible refine wk ?_
        try simp only [nP, nN, nA, n0, nS]
        with_reducible refine wk ?_
        try simp only [nP, nN, nA, n0, nS]
        with_reducible refine wv (.bool true) ?_
        try simp only [nP, nN, nA, n0, nS]
        with_reducible refine wv (.bool true) ?_
        try simp only [nP, nN, nA, n0, nS]
        with_reducible refine wk ?_
        try simp only [nP, nN, nA, n0, nS]
        with_reducible refine wk ?_
        try simp only [nP, nN, nA, n0, nS]
        with_reducible refine wk ?_
        try simp only [nP, nN, nA, n0, nS]
        with_reducible refine wk ?_
        try simp only [nP, nN, nA, n0, nS]
        with_reducible refine wk ?_
        try simp only [nP, nN, nA, n0, nS]
        with_reducible refine wv (.bool true) ?_
        try simp only [nP, nN, nA, n0, nS]
        refine wpList_nil ?_
        exact hjK9 _ _ _ _ _ _ _ _ _ _ _ _ _ _ _ _ _ _ _ _ _ _ _ _ _ _ _ _ _ _ _ _ _ _ _ _ _ _ _ true _ Zb2 Zb3 ee (by first | (simp only [hb7, hb19, hb20, hb26, hb27]; done) | (simp only [hb7, hb19, hb20, hb26, hb27]; rfl) | simp [hb7, hb19, hb20, hb26, hb27])
      with_reducible refine wb (.bool false) (.string a.ky) (.string b.ky) 9 (run_sneB hb27) ?_
      try simp only [nP, nN, nA, n0, nS]
      with_reducible refine wv (.bool false) ?_
      try simp only [nP, nN, nA, n0, nS]
      with_reducible refine wv (.bool false) ?_
      try simp only [nP, nN, nA, n0, nS]
      with_reducible refine wv (.pointer (some ⟨g2, 28, none⟩)) ?_
      try simp only [nP, nN, nA, n0, nS]
      with_reducible refine wl (.int .u64 ((a.ve : Int))) ⟨g2, 28, none⟩ (rowCell Zb2 (28) rfl) Tryd.underlying31 ?_
      try simp only [nP, nN, nA, n0, nS]
      with_reducible refine wv (.pointer (some ⟨g3, 28, none⟩)) ?_
      try simp only [nP, nN, nA, n0, nS]
      with_reducible refine wl (.int .u64 ((b.ve : Int))) ⟨g3, 28, none⟩ (rowCell Zb3 (28) rfl) Tryd.underlying31 ?_
      try simp only [nP, nN, nA, n0, nS]
      obtain ⟨b28, hb28⟩ : ∃ d_ : Bool, (decide ((a.ve : Int) = (b.ve : Int))) = d_ := ⟨_, rfl⟩
      cases b28
      · have pb28 : ¬ ((a.ve : Int) = (b.ve : Int)) := of_decide_eq_false hb28
        with_reducible refine wb (.bool true) (.int .u64 ((a.ve : Int))) (.int .u64 ((b.ve : Int))) 31 (run_neqI hb28) ?_
        try simp only [nP, nN, nA, n0, nS]
        with_reducible refine wv (.bool true) ?_
        try simp only [nP, nN, nA, n0, nS]
        with_reducible refine wv (.bool true) ?_
        try simp only [nP, nN, nA, n0, nS]
        with_reducible refine wk ?_
        try simp only [nP, nN, nA, n0, nS]
        with_reducible refine wk ?_
        try simp only [nP, nN, nA, n0, nS]
        with_reducible refine wk ?_
        try simp only [nP, nN, nA, n0, nS]
        with_reducible refine wk ?_
        try simp only [nP, nN, nA, n0, nS]
        with_reducible refine wk ?_
        try simp only [nP, nN, nA, n0, nS]
        with_reducible refine wv (.bool true) ?_
        try simp only [nP, nN, nA, n0, nS]
        with_reducible refine wv (.bool true) ?_
        try simp only [nP, nN, nA, n0, nS]
        with_reducible refine wk ?_
        try simp only [nP, nN, nA, n0, nS]
        with_reducible refine wk ?_
        try simp only [nP, nN, nA, n0, nS]
        with_reducible refine wk ?_
        try simp only [nP, nN, nA, n0, nS]
        with_reducible refine wk ?_
        try simp only [nP, nN, nA, n0, nS]
        with_reducible refine wk ?_
        try simp only [nP, nN, nA, n0, nS]
        with_reducible refine wv (.bool true) ?_
        try simp only [nP, nN, nA, n0, nS]
        refine wpList_nil ?_
        exact hjK9 _ _ _ _ _ _ _ _ _ _ _ _ _ _ _ _ _ _ _ _ _ _ _ _ _ _ _ _ _ _ _ _ _ _ _ _ _ _ _ true _ Zb2 Zb3 ee (by first | (simp only [hb7, hb19, hb20, hb26, hb27, hb28]; done) | (simp only [hb7, hb19, hb20, hb26, hb27, hb28]; rfl) | simp [hb7, hb19, hb20, hb26, hb27, hb28])
      have pb28 : (a.ve : Int) = (b.ve : Int) := of_decide_eq_true hb28
      with_reducible refine wb (.bool false) (.int .u64 ((a.ve : Int))) (.int .u64 ((b.ve : Int))) 31 (run_neqI hb28) ?_
      try simp only [nP, nN, nA, n0, nS]
      with_reducible refine wv (.bool false) ?_
      try simp only [nP, nN, nA, n0, nS]
      with_reducible refine wv (.bool false) ?_
      try simp only [nP, nN, nA, n0, nS]
      with_reducible refine wv (.pointer (some ⟨g2, 29, none⟩)) ?_
      try simp only [nP, nN, nA, n0, nS]
      with_reducible refine wg (g2) (29) ([.int .i64 a.vk, .int .u64 (a.vb : Int), .string a.vt]) (rowMid Zb2 (29) (partOf 29 (by kernel_rfl))) Tryd.underlying35 ?_
      try simp only [nP, nN, nA, n0, nS]
      with_reducible refine wv (.pointer (some ⟨g3, 29, none⟩)) ?_
      try simp only [nP, nN, nA, n0, nS]
      with_reducible refine wg (g3) (29) ([.int .i64 b.vk, .int .u64 (b.vb : Int), .string b.vt]) (rowMid Zb3 (29) (partOf 29 (by kernel_rfl))) Tryd.underlying35 ?_
      try simp only [nP, nN, nA, n0, nS]
      obtain ⟨b29, hb29⟩ : ∃ d_ : Bool, (decide (a.vk = b.vk ∧ a.vb = b.vb ∧ a.vt.data.toList = b.vt.data.toList)) = d_ := ⟨_, rfl⟩
      cases b29
      · with_reducible refine wb (.bool true) (.agg ([.int .i64 a.vk, .int .u64 (a.vb : Int), .string a.vt]).toArray) (.agg ([.int .i64 b.vk, .int .u64 (b.vb : Int), .string b.vt]).toArray) 35 (run_neOfEq (by have := run_eqvD a.vk a.vb a.vt b.vk b.vb b.vt zc5; rw [hb29] at this; exact this)) ?_
        try simp only [nP, nN, nA, n0, nS]
        with_reducible refine wv (.bool true) ?_
        try simp only [nP, nN, nA, n0, nS]
        with_reducible refine wv (.bool true) ?_
        try simp only [nP, nN, nA, n0, nS]
        with_reducible refine wk ?_
        try simp only [nP, nN, nA, n0, nS]
        with_reducible refine wk ?_
        try simp only [nP, nN, nA, n0, nS]
        with_reducible refine wk ?_
        try simp only [nP, nN, nA, n0, nS]
        with_reducible refine wk ?_
        try simp only [nP, nN, nA, n0, nS]
        with_reducible refine wk ?_
        try simp only [nP, nN, nA, n0, nS]
        with_reducible refine wv (.bool true) ?_
        try simp only [nP, nN, nA, n0, nS]
        refine wpList_nil ?_
        exact hjK9 _ _ _ _ _ _ _ _ _ _ _ _ _ _ _ _ _ _ _ _ _ _ _ _ _ _ _ _ _ _ _ _ _ _ _ _ _ _ _ true _ Zb2 Zb3 ee (by first | (simp only [hb7, hb19, hb20, hb26, hb27, hb28, hb29]; done) | (simp only [hb7, hb19, hb20, hb26, hb27, hb28, hb29]; rfl) | simp [hb7, hb19, hb20, hb26, hb27, hb28, hb29])
      with_reducible refine wb (.bool false) (.agg ([.int .i64 a.vk, .int .u64 (a.vb : Int), .string a.vt]).toArray) (.agg ([.int .i64 b.vk, .int .u64 (b.vb : Int), .string b.vt]).toArray) 35 (run_neOfEq (by have := run_eqvD a.vk a.vb a.vt b.vk b.vb b.vt zc5; rw [hb29] at this; exact this)) ?_
      try simp only [nP, nN, nA, n0, nS]
      with_reducible refine wv (.bool false) ?_
      try simp only [nP, nN, nA, n0, nS]
      with_reducible refine wv (.bool false) ?_
      try simp only [nP, nN, nA, n0, nS]
      with_reducible refine wv (.pointer (some ⟨g2, 32, none⟩)) ?_
      try simp only [nP, nN, nA, n0, nS]
      with_reducible refine wl (.int .i64 a.er) ⟨g2, 32, none⟩ (rowCell Zb2 (32) rfl) Tryd.underlying36 ?_
      try simp only [nP, nN, nA, n0, nS]
      with_reducible refine wv (.pointer (some ⟨g3, 32, none⟩)) ?_
      try simp only [nP, nN, nA, n0, nS]
      with_reducible refine wl (.int .i64 b.er) ⟨g3, 32, none⟩ (rowCell Zb3 (32) rfl) Tryd.underlying36 ?_
      try simp only [nP, nN, nA, n0, nS]
      obtain ⟨b30, hb30⟩ : ∃ d_ : Bool, (decide (a.er = b.er)) = d_ := ⟨_, rfl⟩
      cases b30
      · have pb30 : ¬ (a.er = b.er) := of_decide_eq_false hb30
        with_reducible refine wb (.bool true) (.int .i64 a.er) (.int .i64 b.er) 36 (run_neqI hb30) ?_
        try simp only [nP, nN, nA, n0, nS]
        with_reducible refine wv (.bool true) ?_
        try simp only [nP, nN, nA, n0, nS]
        refine wpList_nil ?_
        exact hjK9 _ _ _ _ _ _ _ _ _ _ _ _ _ _ _ _ _ _ _ _ _ _ _ _ _ _ _ _ _ _ _ _ _ _ _ _ _ _ _ true _ Zb2 Zb3 ee (by first | (simp only [hb7, hb19, hb20, hb26, hb27, hb28, hb29, hb30]; done) | (simp only [hb7, hb19, hb20, hb26, hb27, hb28, hb29, hb30]; rfl) | simp [hb7, hb19, hb20, hb26, hb27, hb28, hb29, hb30])
      have pb30 : a.er = b.er := of_decide_eq_true hb30
      with_reducible refine wb (.bool false) (.int .i64 a.er) (.int .i64 b.er) 36 (run_neqI hb30) ?_
      try simp only [nP, nN, nA, n0, nS]
      with_reducible refine wv (.bool false) ?_
      try simp only [nP, nN, nA, n0, nS]
      refine wpList_nil ?_
      exact hjK9 _ _ _ _ _ _ _ _ _ _ _ _ _ _ _ _ _ _ _ _ _ _ _ _ _ _ _ _ _ _ _ _ _ _ _ _ _ _ _ false _ Zb2 Zb3 ee (by first | (simp only [hb7, hb19, hb20, hb26, hb27, hb28, hb29, hb30]; done) | (simp only [hb7, hb19, hb20, hb26, hb27, hb28, hb29, hb30]; rfl) | simp [hb7, hb19, hb20, hb26, hb27, hb28, hb29, hb30])
    refine wp_cond_true (by kernel_rfl) ?_
    refine wp_seq_k fun K31 hK31 => ?_
    refine wp_region_lit ?_
    with_reducible refine wv (.bool false) ?_
    try simp only [nP, nN, nA, n0, nS]
    refine wpList_nil ?_
    refine hK31 _ _ ?_
    refine wp_ret ?_
    refine then_ret ?_
    exact bodyPost_ret (v := .bool false) (by kernel_rfl) rfl ⟨congrArg (fun b => Ending.returned (.bool b)) (show false = T.Ms.rsame a b from by unfold T.Ms.rsame; first | (simp only [hb7]; done) | (simp only [hb7]; rfl) | simp [hb7]), ee⟩
  refine wp_region_lit ?_
  with_reducible refine wv (.pointer (some ⟨g2, 0, none⟩)) ?_
  try simp only [nP, nN, nA, n0, nS]
  with_reducible refine wl (.int .i64 a.kd) ⟨g2, 0, none⟩ (rowCell Zb2 (0) rfl) Tryd.underlying3 ?_
  try simp only [nP, nN, nA, n0, nS]
  with_reducible refine wv (.pointer (some ⟨g3, 0, none⟩)) ?_
  try simp only [nP, nN, nA, n0, nS]
  with_reducible refine wl (.int .i64 b.kd) ⟨g3, 0, none⟩ (rowCell Zb3 (0) rfl) Tryd.underlying3 ?_
  try simp only [nP, nN, nA, n0, nS]
  obtain ⟨b32, hb32⟩ : ∃ d_ : Bool, (decide (a.kd = b.kd)) = d_ := ⟨_, rfl⟩
  cases b32
  · have pb32 : ¬ (a.kd = b.kd) := of_decide_eq_false hb32
    with_reducible refine wb (.bool true) (.int .i64 a.kd) (.int .i64 b.kd) 3 (run_neqI hb32) ?_
    try simp only [nP, nN, nA, n0, nS]
    with_reducible refine wv (.bool true) ?_
    try simp only [nP, nN, nA, n0, nS]
    with_reducible refine wk ?_
    try simp only [nP, nN, nA, n0, nS]
    with_reducible refine wk ?_
    try simp only [nP, nN, nA, n0, nS]
    with_reducible refine wk ?_
    try simp only [nP, nN, nA, n0, nS]
    with_reducible refine wk ?_
    try simp only [nP, nN, nA, n0, nS]
    with_reducible refine wk ?_
    try simp only [nP, nN, nA, n0, nS]
    with_reducible refine wv (.bool true) ?_
    try simp only [nP, nN, nA, n0, nS]
    with_reducible refine wv (.bool true) ?_
    try simp only [nP, nN, nA, n0, nS]
    with_reducible refine wk ?_
    try simp only [nP, nN, nA, n0, nS]
    with_reducible refine wk ?_
    try simp only [nP, nN, nA, n0, nS]
    with_reducible refine wk ?_
    try simp only [nP, nN, nA, n0, nS]
    with_reducible refine wk ?_
    try simp only [nP, nN, nA, n0, nS]
    with_reducible refine wk ?_
    try simp only [nP, nN, nA, n0, nS]
    with_reducible refine wv (.bool true) ?_
    try simp only [nP, nN, nA, n0, nS]
    with_reducible refine wv (.bool true) ?_
    try simp only [nP, nN, nA, n0, nS]
    with_reducible refine wk ?_
    try simp only [nP, nN, nA, n0, nS]
    with_reducible refine wk ?_
    try simp only [nP, nN, nA, n0, nS]
    with_reducible refine wk ?_
    try simp only [nP, nN, nA, n0, nS]
    with_reducible refine wk ?_
    try simp only [nP, nN, nA, n0, nS]
    with_reducible refine wk ?_
    try simp only [nP, nN, nA, n0, nS]
    with_reducible refine wv (.bool true) ?_
    try simp only [nP, nN, nA, n0, nS]
    with_reducible refine wv (.bool true) ?_
    try simp only [nP, nN, nA, n0, nS]
    with_reducible refine wk ?_
    try simp only [nP, nN, nA, n0, nS]
    with_reducible refine wk ?_
    try simp only [nP, nN, nA, n0, nS]
    with_reducible refine wk ?_
    try simp only [nP, nN, nA, n0, nS]
    with_reducible refine wk ?_
    try simp only [nP, nN, nA, n0, nS]
    with_reducible refine wk ?_
    try simp only [nP, nN, nA, n0, nS]
    with_reducible refine wv (.bool true) ?_
    try simp only [nP, nN, nA, n0, nS]
    with_reducible refine wv (.bool true) ?_
    try simp only [nP, nN, nA, n0, nS]
    with_reducible refine wk ?_
    try simp only [nP, nN, nA, n0, nS]
    with_reducible refine wk ?_
    try simp only [nP, nN, nA, n0, nS]
    with_reducible refine wk ?_
    try simp only [nP, nN, nA, n0, nS]
    with_reducible refine wk ?_
    try simp only [nP, nN, nA, n0, nS]
    with_reducible refine wk ?_
    try simp only [nP, nN, nA, n0, nS]
    with_reducible refine wv (.bool true) ?_
    try simp only [nP, nN, nA, n0, nS]
    with_reducible refine wv (.bool true) ?_
    try simp only [nP, nN, nA, n0, nS]
    with_reducible refine wk ?_
    try simp only [nP, nN, nA, n0, nS]
    with_reducible refine wk ?_
    try simp only [nP, nN, nA, n0, nS]
    with_reducible refine wk ?_
    try simp only [nP, nN, nA, n0, nS]
    with_reducible refine wk ?_
    try simp only [nP, nN, nA, n0, nS]
    with_reducible refine wk ?_
    try simp only [nP, nN, nA, n0, nS]
    with_reducible refine wv (.bool true) ?_
    try simp only [nP, nN, nA, n0, nS]
    with_reducible refine wv (.bool true) ?_
    try simp only [nP, nN, nA, n0, nS]
    with_reducible refine wk ?_
    try simp only [nP, nN, nA, n0, nS]
    with_reducible refine wk ?_
    try simp only [nP, nN, nA, n0, nS]
    with_reducible refine wk ?_
    try simp only [nP, nN, nA, n0, nS]
    with_reducible refine wk ?_
    try simp only [nP, nN, nA, n0, nS]
    with_reducible refine wk ?_
    try simp only [nP, nN, nA, n0, nS]
    with_reducible refine wv (.bool true) ?_
    try simp only [nP, nN, nA, n0, nS]
    refine wpList_nil ?_
    exact hjK5 _ _ _ _ _ _ _ _ _ _ _ _ _ _ _ _ _ _ _ _ _ _ _ _ _ _ _ _ _ _ _ _ _ _ _ _ _ _ _ _ _ _ _ _ _ _ _ _ _ _ _ _ _ true _ Zb2 Zb3 ee (by first | (simp only [hb32]; done) | (simp only [hb32]; rfl) | simp [hb32])
  have pb32 : a.kd = b.kd := of_decide_eq_true hb32
  with_reducible refine wb (.bool false) (.int .i64 a.kd) (.int .i64 b.kd) 3 (run_neqI hb32) ?_
  try simp only [nP, nN, nA, n0, nS]
  with_reducible refine wv (.bool false) ?_
  try simp only [nP, nN, nA, n0, nS]
  with_reducible refine wv (.pointer (some ⟨g2, 1, none⟩)) ?_
  try simp only [nP, nN, nA, n0, nS]
  with_reducible refine wg (g2) (1) ([.int .u32 (a.br : Int), .int .i64 a.bn]) (rowMid Zb2 (1) (partOf 1 (by kernel_rfl))) Tryd.underlying44 ?_
  try simp only [nP, nN, nA, n0, nS]
  with_reducible refine wv (.pointer (some ⟨g3, 1, none⟩)) ?_
  try simp only [nP, nN, nA, n0, nS]
  with_reducible refine wg (g3) (1) ([.int .u32 (b.br : Int), .int .i64 b.bn]) (rowMid Zb3 (1) (partOf 1 (by kernel_rfl))) Tryd.underlying44 ?_
  try simp only [nP, nN, nA, n0, nS]
  obtain ⟨b33, hb33⟩ : ∃ d_ : Bool, (decide (a.br = b.br ∧ a.bn = b.bn)) = d_ := ⟨_, rfl⟩
  cases b33
  · with_reducible refine wb (.bool true) (.agg ([.int .u32 (a.br : Int), .int .i64 a.bn]).toArray) (.agg ([.int .u32 (b.br : Int), .int .i64 b.bn]).toArray) 44 (run_neOfEq (by have := B.run_eqRBal a.br a.bn b.br b.bn z2; rw [hb33] at this; exact this)) ?_
    try simp only [nP, nN, nA, n0, nS]
    with_reducible refine wv (.bool true) ?_
    try simp only [nP, nN, nA, n0, nS]
    with_reducible refine wv (.bool true) ?_
    try simp only [nP, nN, nA, n0, nS]
    with_reducible refine wk ?_
    try simp only [nP, nN, nA, n0, nS]
    with_reducible refine wk ?_
    try simp only [nP, nN, nA, n0, nS]
    with_reducible refine wk ?_
    try simp only [nP, nN, nA, n0, nS]
    with_reducible refine wk ?_
    try simp only [nP, nN, nA, n0, nS]
    with_reducible refine wk ?_
    try simp only [nP, nN, nA, n0, nS]
    with_reducible refine wv (.bool true) ?_
    try simp only [nP, nN, nA, n0, nS]
    with_reducible refine wv (.bool true) ?_
    try simp only [nP, nN, nA, n0, nS]
    with_reducible refine wk ?_
    try simp only [nP, nN, nA, n0, nS]
    with_reducible refine wk ?_
    try simp only [nP, nN, nA, n0, nS]
    with_reducible refine wk ?_
    try simp only [nP, nN, nA, n0, nS]
    with_reducible refine wk ?_
    try simp only [nP, nN, nA, n0, nS]
    with_reducible refine wk ?_
    try simp only [nP, nN, nA, n0, nS]
    with_reducible refine wv (.bool true) ?_
    try simp only [nP, nN, nA, n0, nS]
    with_reducible refine wv (.bool true) ?_
    try simp only [nP, nN, nA, n0, nS]
    with_reducible refine wk ?_
    try simp only [nP, nN, nA, n0, nS]
    with_reducible refine wk ?_
    try simp only [nP, nN, nA, n0, nS]
    with_reducible refine wk ?_
    try simp only [nP, nN, nA, n0, nS]
    with_reducible refine wk ?_
    try simp only [nP, nN, nA, n0, nS]
    with_reducible refine wk ?_
    try simp only [nP, nN, nA, n0, nS]
    with_reducible refine wv (.bool true) ?_
    try simp only [nP, nN, nA, n0, nS]
    with_reducible refine wv (.bool true) ?_
    try simp only [nP, nN, nA, n0, nS]
    with_reducible refine wk ?_
    try simp only [nP, nN, nA, n0, nS]
    with_reducible refine wk ?_
    try simp only [nP, nN, nA, n0, nS]
    with_reducible refine wk ?_
    try simp only [nP, nN, nA, n0, nS]
    with_reducible refine wk ?_
    try simp only [nP, nN, nA, n0, nS]
    with_reducible refine wk ?_
    try simp only [nP, nN, nA, n0, nS]
    with_reducible refine wv (.bool true) ?_
    try simp only [nP, nN, nA, n0, nS]
    with_reducible refine wv (.bool true) ?_
    try simp only [nP, nN, nA, n0, nS]
    with_reducible refine wk ?_
    try simp only [nP, nN, nA, n0, nS]
    with_reducible refine wk ?_
    try simp only [nP, nN, nA, n0, nS]
    with_reducible refine wk ?_
    try simp only [nP, nN, nA, n0, nS]
    with_reducible refine wk ?_
    try simp only [nP, nN, nA, n0, nS]
    with_reducible refine wk ?_
    try simp only [nP, nN, nA, n0, nS]
    with_reducible refine wv (.bool true) ?_
    try simp only [nP, nN, nA, n0, nS]
    with_reducible refine wv (.bool true) ?_
    try simp only [nP, nN, nA, n0, nS]
    with_reducible refine wk ?_
    try simp only [nP, nN, nA, n0, nS]
    with_reducible refine wk ?_
    try simp only [nP, nN, nA, n0, nS]
    with_reducible refine wk ?_
    try simp only [nP, nN, nA, n0, nS]
    with_reducible refine wk ?_
    try simp only [nP, nN, nA, n0, nS]
    with_reducible refine wk ?_
    try simp only [nP, nN, nA, n0, nS]
    with_reducible refine wv (.bool true) ?_
    try simp only [nP, nN, nA, n0, nS]
    refine wpList_nil ?_
    exact hjK5 _ _ _ _ _ _ _ _ _ _ _ _ _ _ _ _ _ _ _ _ _ _ _ _ _ _ _ _ _ _ _ _ _ _ _ _ _ _ _ _ _ _ _ _ _ _ _ _ _ _ _ _ _ true _ Zb2 Zb3 ee (by first | (simp only [hb32, hb33]; done) | (simp only [hb32, hb33]; rfl) | simp [hb32, hb33])
  with_reducible refine wb (.bool false) (.agg ([.int .u32 (a.br : Int), .int .i64 a.bn]).toArray) (.agg ([.int .u32 (b.br : Int), .int .i64 b.bn]).toArray) 44 (run_neOfEq (by have := B.run_eqRBal a.br a.bn b.br b.bn z2; rw [hb33] at this; exact this)) ?_
  try simp only [nP, nN, nA, n0, nS]
  with_reducible refine wv (.bool false) ?_
  try simp only [nP, nN, nA, n0, nS]
  with_reducible refine wv (.bool false) ?_
  try simp only [nP, nN, nA, n0, nS]
  with_reducible refine wv (.pointer (some ⟨g2, 3, none⟩)) ?_
  try simp only [nP, nN, nA, n0, nS]
  with_reducible refine wl (.int .i64 a.sl) ⟨g2, 3, none⟩ (rowCell Zb2 (3) rfl) Tryd.underlying3 ?_
  try simp only [nP, nN, nA, n0, nS]
  with_reducible refine wv (.pointer (some ⟨g3, 3, none⟩)) ?_
  try simp only [nP, nN, nA, n0, nS]
  with_reducible refine wl (.int .i64 b.sl) ⟨g3, 3, none⟩ (rowCell Zb3 (3) rfl) Tryd.underlying3 ?_
  try simp only [nP, nN, nA, n0, nS]
  obtain ⟨b34, hb34⟩ : ∃ d_ : Bool, (decide (a.sl = b.sl)) = d_ := ⟨_, rfl⟩
  cases b34
  · have pb34 : ¬ (a.sl = b.sl) := of_decide_eq_false hb34
    with_reducible refine wb (.bool true) (.int .i64 a.sl) (.int .i64 b.sl) 3 (run_neqI hb34) ?_
    try simp only [nP, nN, nA, n0, nS]
    with_reducible refine wv (.bool true) ?_
    try simp only [nP, nN, nA, n0, nS]
    with_reducible refine wv (.bool true) ?_
    try simp only [nP, nN, nA, n0, nS]
    with_reducible refine wk ?_
    try simp only [nP, nN, nA, n0, nS]
    with_reducible refine wk ?_
    try simp only [nP, nN, nA, n0, nS]
    with_reducible refine wk ?_
    try simp only [nP, nN, nA, n0, nS]
    with_reducible refine wk ?_
    try simp only [nP, nN, nA, n0, nS]
    with_reducible refine wk ?_
    try simp only [nP, nN, nA, n0, nS]
    with_reducible refine wv (.bool true) ?_
    try simp only [nP, nN, nA, n0, nS]
    with_reducible refine wv (.bool true) ?_
    try simp only [nP, nN, nA, n0, nS]
    with_reducible refine wk ?_
    try simp only [nP, nN, nA, n0, nS]
    with_reducible refine wk ?_
    try simp only [nP, nN, nA, n0, nS]
    with_reducible refine wk ?_
    try simp only [nP, nN, nA, n0, nS]
    with_reducible refine wk ?_
    try simp only [nP, nN, nA, n0, nS]
    with_reducible refine wk ?_
    try simp only [nP, nN, nA, n0, nS]
    with_reducible refine wv (.bool true) ?_
    try simp only [nP, nN, nA, n0, nS]
    with_reducible refine wv (.bool true) ?_
    try simp only [nP, nN, nA, n0, nS]
    with_reducible refine wk ?_
    try simp only [nP, nN, nA, n0, nS]
    with_reducible refine wk ?_
    try simp only [nP, nN, nA, n0, nS]
    with_reducible refine wk ?_
    try simp only [nP, nN, nA, n0, nS]
    with_reducible refine wk ?_
    try simp only [nP, nN, nA, n0, nS]
    with_reducible refine wk ?_
    try simp only [nP, nN, nA, n0, nS]
    with_reducible refine wv (.bool true) ?_
    try simp only [nP, nN, nA, n0, nS]
    with_reducible refine wv (.bool true) ?_
    try simp only [nP, nN, nA, n0, nS]
    with_reducible refine wk ?_
    try simp only [nP, nN, nA, n0, nS]
    with_reducible refine wk ?_
    try simp only [nP, nN, nA, n0, nS]
    with_reducible refine wk ?_
    try simp only [nP, nN, nA, n0, nS]
    with_reducible refine wk ?_
    try simp only [nP, nN, nA, n0, nS]
    with_reducible refine wk ?_
    try simp only [nP, nN, nA, n0, nS]
    with_reducible refine wv (.bool true) ?_
    try simp only [nP, nN, nA, n0, nS]
    with_reducible refine wv (.bool true) ?_
    try simp only [nP, nN, nA, n0, nS]
    with_reducible refine wk ?_
    try simp only [nP, nN, nA, n0, nS]
    with_reducible refine wk ?_
    try simp only [nP, nN, nA, n0, nS]
    with_reducible refine wk ?_
    try simp only [nP, nN, nA, n0, nS]
    with_reducible refine wk ?_
    try simp only [nP, nN, nA, n0, nS]
    with_reducible refine wk ?_
    try simp only [nP, nN, nA, n0, nS]
    with_reducible refine wv (.bool true) ?_
    try simp only [nP, nN, nA, n0, nS]
    refine wpList_nil ?_
    exact hjK5 _ _ _ _ _ _ _ _ _ _ _ _ _ _ _ _ _ _ _ _ _ _ _ _ _ _ _ _ _ _ _ _ _ _ _ _ _ _ _ _ _ _ _ _ _ _ _ _ _ _ _ _ _ true _ Zb2 Zb3 ee (by first | (simp only [hb32, hb33, hb34]; done) | (simp only [hb32, hb33, hb34]; rfl) | simp [hb32, hb33, hb34])
  have pb34 : a.sl = b.sl := of_decide_eq_true hb34
  with_reducible refine wb (.bool false) (.int .i64 a.sl) (.int .i64 b.sl) 3 (run_neqI hb34) ?_
  try simp only [nP, nN, nA, n0, nS]
  with_reducible refine wv (.bool false) ?_
  try simp only [nP, nN, nA, n0, nS]
  with_reducible refine wv (.bool false) ?_
  try simp only [nP, nN, nA, n0, nS]
  with_reducible refine wv (.pointer (some ⟨g2, 4, none⟩)) ?_
  try simp only [nP, nN, nA, n0, nS]
  with_reducible refine wl (.bool a.ha) ⟨g2, 4, none⟩ (rowCell Zb2 (4) rfl) Tryd.underlying4 ?_
  generalize hb35 : a.ha = b35
  try simp only [nP, nN, nA, n0, nS]
  with_reducible refine wv (.pointer (some ⟨g3, 4, none⟩)) ?_
  try simp only [nP, nN, nA, n0, nS]
  with_reducible refine wl (.bool b.ha) ⟨g3, 4, none⟩ (rowCell Zb3 (4) rfl) Tryd.underlying4 ?_
  generalize hb36 : b.ha = b36
  try simp only [nP, nN, nA, n0, nS]
  cases b35
  · cases b36
    · with_reducible refine wv (.bool false) ?_
      try simp only [nP, nN, nA, n0, nS]
      with_reducible refine wv (.bool false) ?_
      try simp only [nP, nN, nA, n0, nS]
      with_reducible refine wv (.bool false) ?_
      try simp only [nP, nN, nA, n0, nS]
      with_reducible refine wv (.pointer (some ⟨g2, 5, none⟩)) ?_
      try simp only [nP, nN, nA, n0, nS]
      with_reducible refine wg (g2) (5) ([.int .u32 (a.vr : Int), .int .i64 a.vn]) (rowMid Zb2 (5) (partOf 5 (by kernel_rfl))) Tryd.underlying44 ?_
      try simp only [nP, nN, nA, n0, nS]
      with_reducible refine wv (.pointer (some ⟨g3, 5, none⟩)) ?_
      try simp only [nP, nN, nA, n0, nS]
      with_reducible refine wg (g3) (5) ([.int .u32 (b.vr : Int), .int .i64 b.vn]) (rowMid Zb3 (5) (partOf 5 (by kernel_rfl))) Tryd.underlying44 ?_
      try simp only [nP, nN, nA, n0, nS]
      obtain ⟨b37, hb37⟩ : ∃ d_ : Bool, (decide (a.vr = b.vr ∧ a.vn = b.vn)) = d_ := ⟨_, rfl⟩
      cases b37
      · with_reducible refine wb (.bool true) (.agg ([.int .u32 (a.vr : Int), .int .i64 a.vn]).toArray) (.agg ([.int .u32 (b.vr : Int), .int .i64 b.vn]).toArray) 44 (run_neOfEq (by have := B.run_eqRBal a.vr a.vn b.vr b.vn z2; rw [hb37] at this; exact this)) ?_
        try simp only [nP, nN, nA, n0, nS]
        with_reducible refine wv (.bool true) ?_
        try simp only [nP, nN, nA, n0, nS]
        with_reducible refine wv (.bool true) ?_
        try simp only [nP, nN, nA, n0, nS]
        with_reducible refine wk ?_
        try simp only [nP, nN, nA, n0, nS]
        with_reducible refine wk ?_
        try simp only [nP, nN, nA, n0, nS]
        with_reducible refine wk ?_
        try simp only [nP, nN, nA, n0, nS]
        with_reducible refine wk ?_
        try simp only [nP, nN, nA, n0, nS]
        with_reducible refine wk ?_
        try simp only [nP, nN, nA, n0, nS]
        with_reducible refine wv (.bool true) ?_
        try simp only [nP, nN, nA, n0, nS]
        with_reducible refine wv (.bool true) ?_
        try simp only [nP, nN, nA, n0, nS]
        with_reducible refine wk ?_
        try simp only [nP, nN, nA, n0, nS]
        with_reducible refine wk ?_
        try simp only [nP, nN, nA, n0, nS]
        with_reducible refine wk ?_
        try simp only [nP, nN, nA, n0, nS]
        with_reducible refine wk ?_
        try simp only [nP, nN, nA, n0, nS]
        with_reducible refine wk ?_
        try simp only [nP, nN, nA, n0, nS]
        with_reducible refine wv (.bool true) ?_
        try simp only [nP, nN, nA, n0, nS]
        with_reducible refine wv (.bool true) ?_
        try simp only [nP, nN, nA, n0, nS]
        with_reducible refine wk ?_
        try simp only [nP, nN, nA, n0, nS]
        with_reducible refine wk ?_
        try simp only [nP, nN, nA, n0, nS]
        with_reducible refine wk ?_
        try simp only [nP, nN, nA, n0, nS]
        with_reducible refine wk ?_
        try simp only [nP, nN, nA, n0, nS]
        with_reducible refine wk ?_
        try simp only [nP, nN, nA, n0, nS]
        with_reducible refine wv (.bool true) ?_
        try simp only [nP, nN, nA, n0, nS]
        refine wpList_nil ?_
        exact hjK5 _ _ _ _ _ _ _ _ _ _ _ _ _ _ _ _ _ _ _ _ _ _ _ _ _ _ _ _ _ _ _ _ _ _ _ _ _ _ _ _ _ _ _ _ _ _ _ _ _ _ _ _ _ true _ Zb2 Zb3 ee (by first | (simp only [hb32, hb33, hb34, hb35, hb36, hb37]; done) | (simp only [hb32, hb33, hb34, hb35, hb36, hb37]; rfl) | simp [hb32, hb33, hb34, hb35, hb36, hb37])
      with_reducible refine wb (.bool false) (.agg ([.int .u32 (a.vr : Int), .int .i64 a.vn]).toArray) (.agg ([.int .u32 (b.vr : Int), .int .i64 b.vn]).toArray) 44 (run_neOfEq (by have := B.run_eqRBal a.vr a.vn b.vr b.vn z2; rw [hb37] at this; exact this)) ?_
      try simp only [nP, nN, nA, n0, nS]
      with_reducible refine wv (.bool false) ?_
      try simp only [nP, nN, nA, n0, nS]
      with_reducible refine wv (.bool false) ?_
      try simp only [nP, nN, nA, n0, nS]
      with_reducible refine wv (.pointer (some ⟨g2, 21, none⟩)) ?_
      try simp only [nP, nN, nA, n0, nS]
      with_reducible refine wg (g2) (21) ([.int .i64 a.ii, .int .i64 a.ij]) (rowMid Zb2 (21) (partOf 21 (by kernel_rfl))) Tryd.underlying26 ?_
      try simp only [nP, nN, nA, n0, nS]
      with_reducible refine wv (.pointer (some ⟨g3, 21, none⟩)) ?_
      try simp only [nP, nN, nA, n0, nS]
      with_reducible refine wg (g3) (21) ([.int .i64 b.ii, .int .i64 b.ij]) (rowMid Zb3 (21) (partOf 21 (by kernel_rfl))) Tryd.underlying26 ?_
      try simp only [nP, nN, nA, n0, nS]
      obtain ⟨b38, hb38⟩ : ∃ d_ : Bool, (decide (a.ii = b.ii ∧ a.ij = b.ij)) = d_ := ⟨_, rfl⟩
      cases b38
      · with_reducible refine wb (.bool true) (.agg ([.int .i64 a.ii, .int .i64 a.ij]).toArray) (.agg ([.int .i64 b.ii, .int .i64 b.ij]).toArray) 26 (run_neOfEq (by have := run_eqId a.ii a.ij b.ii b.ij z2; rw [hb38] at this; exact this)) ?_
        try simp only [nP, nN, nA, n0, nS]
        with_reducible refine wv (.bool true) ?_
        try simp only [nP, nN, nA, n0, nS]
        with_reducible refine wv (.bool true) ?_
        try simp only [nP, nN, nA, n0, nS]
        with_reducible refine wk ?_
        try simp only [nP, nN, nA, n0, nS]
        with_reducible refine wk ?_
        try simp only [nP, nN, nA, n0, nS]
        with_reducible refine wk ?_
        try simp only [nP, nN, nA, n0, nS]
        with_reducible refine wk ?_
        try simp only [nP, nN, nA, n0, nS]
        with_reducible refine wk ?_
        try simp only [nP, nN, nA, n0, nS]
        with_reducible refine wv (.bool true) ?_
        try simp only [nP, nN, nA, n0, nS]
        with_reducible refine wv (.bool true) ?_
        try simp only [nP, nN, nA, n0, nS]
        with_reducible refine wk ?_
        try simp only [nP, nN, nA, n0, nS]
        with_reducible refine wk ?_
        try simp only [nP, nN, nA, n0, nS]
        with_reducible refine wk ?_
        try simp only [nP, nN, nA, n0, nS]
        with_reducible refine wk ?_
        try simp only [nP, nN, nA, n0, nS]
        with_reducible refine wk ?_
        try simp only [nP, nN, nA, n0, nS]
        with_reducible refine wv (.bool true) ?_
        try simp only [nP, nN, nA, n0, nS]
        refine wpList_nil ?_
        exact hjK5 _ _ _ _ _ _ _ _ _ _ _ _ _ _ _ _ _ _ _ _ _ _ _ _ _ _ _ _ _ _ _ _ _ _ _ _ _ _ _ _ _ _ _ _ _ _ _ _ _ _ _ _ _ true _ Zb2 Zb3 ee (by first | (simp only [hb32, hb33, hb34, hb35, hb36, hb37, hb38]; done) | (simp only [hb32, hb33, hb34, hb35, hb36, hb37, hb38]; rfl) | simp [hb32, hb33, hb34, hb35, hb36, hb37, hb38])
      with_reducible refine wb (.bool false) (.agg ([.int .i64 a.ii, .int .i64 a.ij]).toArray) (.agg ([.int .i64 b.ii, .int .i64 b.ij]).toArray) 26 (run_neOfEq (by have := run_eqId a.ii a.ij b.ii b.ij z2; rw [hb38] at this; exact this)) ?_
      try simp only [nP, nN, nA, n0, nS]
      with_reducible refine wv (.bool false) ?_
      try simp only [nP, nN, nA, n0, nS]
      with_reducible refine wv (.bool false) ?_
      try simp only [nP, nN, nA, n0, nS]
      with_reducible refine wv (.pointer (some ⟨g2, 23, none⟩)) ?_
      try simp only [nP, nN, nA, n0, nS]
      with_reducible refine wl (.int .i64 a.g) ⟨g2, 23, none⟩ (rowCell Zb2 (23) rfl) Tryd.underlying3 ?_
      try simp only [nP, nN, nA, n0, nS]
      with_reducible refine wv (.pointer (some ⟨g3, 23, none⟩)) ?_
      try simp only [nP, nN, nA, n0, nS]
      with_reducible refine wl (.int .i64 b.g) ⟨g3, 23, none⟩ (rowCell Zb3 (23) rfl) Tryd.underlying3 ?_
      try simp only [nP, nN, nA, n0, nS]
      obtain ⟨b39, hb39⟩ : ∃ d_ : Bool, (decide (a.g = b.g)) = d_ := ⟨_, rfl⟩
      cases b39
      · have pb39 : ¬ (a.g = b.g) := of_decide_eq_false hb39
        with_reducible refine wb (.bool true) (.int .i64 a.g) (.int .i64 b.g) 3 (run_neqI hb39) ?_
        try simp only [nP, nN, nA, n0, nS]
        with_reducible refine wv (.bool true) ?_
        try simp only [nP, nN, nA, n0, nS]
        with_reducible refine wv (.bool true) ?_
        try simp only [nP, nN, nA, n0, nS]
        with_reducible refine wk ?_
        try simp only [nP, nN, nA, n0, nS]
        with_reducible refine wk ?_
        try simp only [nP, nN, nA, n0, nS]
        with_reducible refine wk ?_
        try simp only [nP, nN, nA, n0, nS]
        with_reducible refine wk ?_
        try simp only [nP, nN, nA, n0, nS]
        with_reducible refine wk ?_
        try simp only [nP, nN, nA, n0, nS]
        with_reducible refine wv (.bool true) ?_
        try simp only [nP, nN, nA, n0, nS]
        refine wpList_nil ?_
        exact hjK5 _ _ _ _ _ _ _ _ _ _ _ _ _ _ _ _ _ _ _ _ _ _ _ _ _ _ _ _ _ _ _ _ _ _ _ _ _ _ _ _ _ _ _ _ _ _ _ _ _ _ _ _ _ true _ Zb2 Zb3 ee (by first | (simp only [hb32, hb33, hb34, hb35, hb36, hb37, hb38, hb39]; done) | (simp only [hb32, hb33, hb34, hb35, hb36, hb37, hb38, hb39]; rfl) | simp [hb32, hb33, hb34, hb35, hb36, hb37, hb38, hb39])
      have pb39 : a.g = b.g := of_decide_eq_true hb39
      with_reducible refine wb (.bool false) (.int .i64 a.g) (.int .i64 b.g) 3 (run_neqI hb39) ?_
      try simp only [nP, nN, nA, n0, nS]
      with_reducible refine wv (.bool false) ?_
      try simp only [nP, nN, nA, n0, nS]
      with_reducible refine wv (.bool false) ?_
      try simp only [nP, nN, nA, n0, nS]
      with_reducible refine wv (.pointer (some ⟨g2, 24, none⟩)) ?_
      try simp only [nP, nN, nA, n0, nS]
      with_reducible refine wl (.int .u64 ((a.st : Int))) ⟨g2, 24, none⟩ (rowCell Zb2 (24) rfl) Tryd.underlying31 ?_
      try simp only [nP, nN, nA, n0, nS]
      with_reducible refine wv (.pointer (some ⟨g3, 24, none⟩)) ?_
      try simp only [nP, nN, nA, n0, nS]
      with_reducible refine wl (.int .u64 ((b.st : Int))) ⟨g3, 24, none⟩ (rowCell Zb3 (24) rfl) Tryd.underlying31 ?_
      try simp only [nP, nN, nA, n0, nS]
      obtain ⟨b40, hb40⟩ : ∃ d_ : Bool, (decide ((a.st : Int) = (b.st : Int))) = d_ := ⟨_, rfl⟩
      cases b40
      · have pb40 : ¬ ((a.st : Int) = (b.st : Int)) := of_decide_eq_false hb40
        with_reducible refine wb (.bool true) (.int .u64 ((a.st : Int))) (.int .u64 ((b.st : Int))) 31 (run_neqI hb40) ?_
        try simp only [nP, nN, nA, n0, nS]
        with_reducible refine wv (.bool true) ?_
        try simp only [nP, nN, nA, n0, nS]
        refine wpList_nil ?_
        exact hjK5 _ _ _ _ _ _ _ _ _ _ _ _ _ _ _ _ _ _ _ _ _ _ _ _ _ _ _ _ _ _ _ _ _ _ _ _ _ _ _ _ _ _ _ _ _ _ _ _ _ _ _ _ _ true _ Zb2 Zb3 ee (by first | (simp only [hb32, hb33, hb34, hb35, hb36, hb37, hb38, hb39, hb40]; done) | (simp only [hb32, hb33, hb34, hb35, hb36, hb37, hb38, hb39, hb40]; rfl) | simp [hb32, hb33, hb34, hb35, hb36, hb37, hb38, hb39, hb40])
      have pb40 : (a.st : Int) = (b.st : Int) := of_decide_eq_true hb40
      with_reducible refine wb (.bool false) (.int .u64 ((a.st : Int))) (.int .u64 ((b.st : Int))) 31 (run_neqI hb40) ?_
      try simp only [nP, nN, nA, n0, nS]
      with_reducible refine wv (.bool false) ?_
      try simp only [nP, nN, nA, n0, nS]
      refine wpList_nil ?_
      exact hjK5 _ _ _ _ _ _ _ _ _ _ _ _ _ _ _ _ _ _ _ _ _ _ _ _ _ _ _ _ _ _ _ _ _ _ _ _ _ _ _ _ _ _ _ _ _ _ _ _ _ _ _ _ _ false _ Zb2 Zb3 ee (by first | (simp only [hb32, hb33, hb34, hb35, hb36, hb37, hb38, hb39, hb40]; done) | (simp only [hb32, hb33, hb34, hb35, hb36, hb37, hb38, hb39, hb40]; rfl) | simp [hb32, hb33, hb34, hb35, hb36, hb37, hb38, hb39, hb40])
    with_reducible refine wv (.bool true) ?_
    try simp only [nP, nN, nA, n0, nS]
    with_reducible refine wv (.bool true) ?_
    try simp only [nP, nN, nA, n0, nS]
    with_reducible refine wv (.bool true) ?_
    try simp only [nP, nN, nA, n0, nS]
    with_reducible refine wk ?_
    try simp only [nP, nN, nA, n0, nS]
    with_reducible refine wk ?_
    try simp only [nP, nN, nA, n0, nS]
    with_reducible refine wk ?_
    try simp only [nP, nN, nA, n0, nS]
    with_reducible refine wk ?_
    try simp only [nP, nN, nA, n0, nS]
    with_reducible refine wk ?_
    try simp only [nP, nN, nA, n0, nS]
    with_reducible refine wv (.bool true) ?_
    try simp only [nP, nN, nA, n0, nS]
    with_reducible refine wv (.bool true) ?_
    try simp only [nP, nN, nA, n0, nS]
    with_reducible refine wk ?_
    try simp only [nP, nN, nA, n0, nS]
    with_reducible refine wk ?_
    try simp only [nP, nN, nA, n0, nS]
    with_reducible refine wk ?_
    try simp only [nP, nN, nA, n0, nS]
    with_reducible refine wk ?_
    try simp only [nP, nN, nA, n0, nS]
    with_reducible refine wk ?_
    try simp only [nP, nN, nA, n0, nS]
    with_reducible refine wv (.bool true) ?_
    try simp only [nP, nN, nA, n0, nS]
    with_reducible refine wv (.bool true) ?_
    try simp only [nP, nN, nA, n0, nS]
    with_reducible refine wk ?_
    try simp only [nP, nN, nA, n0, nS]
    with_reducible refine wk ?_
    try simp only [nP, nN, nA, n0, nS]
    with_reducible refine wk ?_
    try simp only [nP, nN, nA, n0, nS]
    with_reducible refine wk ?_
    try simp only [nP, nN, nA, n0, nS]
    with_reducible refine wk ?_
    try simp only [nP, nN, nA, n0, nS]
    with_reducible refine wv (.bool true) ?_
    try simp only [nP, nN, nA, n0, nS]
    with_reducible refine wv (.bool true) ?_
    try simp only [nP, nN, nA, n0, nS]
    with_reducible refine wk ?_
    try simp only [nP, nN, nA, n0, nS]
    with_reducible refine wk ?_
    try simp only [nP, nN, nA, n0, nS]
    with_reducible refine wk ?_
    try simp only [nP, nN, nA, n0, nS]
    with_reducible refine wk ?_
    try simp only [nP, nN, nA, n0, nS]
    with_reducible refine wk ?_
    try simp only [nP, nN, nA, n0, nS]
    with_reducible refine wv (.bool true) ?_
    try simp only [nP, nN, nA, n0, nS]
    refine wpList_nil ?_
    exact hjK5 _ _ _ _ _ _ _ _ _ _ _ _ _ _ _ _ _ _ _ _ _ _ _ _ _ _ _ _ _ _ _ _ _ _ _ _ _ _ _ _ _ _ _ _ _ _ _ _ _ _ _ _ _ true _ Zb2 Zb3 ee (by first | (simp only [hb32, hb33, hb34, hb35, hb36]; done) | (simp only [hb32, hb33, hb34, hb35, hb36]; rfl) | simp [hb32, hb33, hb34, hb35, hb36])
  cases b36
  · with_reducible refine wv (.bool true) ?_
    try simp only [nP, nN, nA, n0, nS]
    with_reducible refine wv (.bool true) ?_
    try simp only [nP, nN, nA, n0, nS]
    with_reducible refine wv (.bool true) ?_
    try simp only [nP, nN, nA, n0, nS]
    with_reducible refine wk ?_
    try simp only [nP, nN, nA, n0, nS]
    with_reducible refine wk ?_
    try simp only [nP, nN, nA, n0, nS]
    with_reducible refine wk ?_
    try simp only [nP, nN, nA, n0, nS]
    with_reducible refine wk ?_
    try simp only [nP, nN, nA, n0, nS]
    with_reducible refine wk ?_
    try simp only [nP, nN, nA, n0, nS]
    with_reducible refine wv (.bool true) ?_
    try simp only [nP, nN, nA, n0, nS]
    with_reducible refine wv (.bool true) ?_
    try simp only [nP, nN, nA, n0, nS]
    with_reducible refine wk ?_
    try simp only [nP, nN, nA, n0, nS]
    with_reducible refine wk ?_
    try simp only [nP, nN, nA, n0, nS]
    with_reducible refine wk ?_
    try simp only [nP, nN, nA, n0, nS]
    with_reducible refine wk ?_
    try simp only [nP, nN, nA, n0, nS]
    with_reducible refine wk ?_
    try simp only [nP, nN, nA, n0, nS]
    with_reducible refine wv (.bool true) ?_
    try simp only [nP, nN, nA, n0, nS]
    with_reducible refine wv (.bool true) ?_
    try simp only [nP, nN, nA, n0, nS]
    with_reducible refine wk ?_
    try simp only [nP, nN, nA, n0, nS]
    with_reducible refine wk ?_
    try simp only [nP, nN, nA, n0, nS]
    with_reducible refine wk ?_
    try simp only [nP, nN, nA, n0, nS]
    with_reducible refine wk ?_
    try simp only [nP, nN, nA, n0, nS]
    with_reducible refine wk ?_
    try simp only [nP, nN, nA, n0, nS]
    with_reducible refine wv (.bool true) ?_
    try simp only [nP, nN, nA, n0, nS]
    with_reducible refine wv (.bool true) ?_
    try simp only [nP, nN, nA, n0, nS]
    with_reducible refine wk ?_
    try simp only [nP, nN, nA, n0, nS]
    with_reducible refine wk ?_
    try simp only [nP, nN, nA, n0, nS]
    with_reducible refine wk ?_
    try simp only [nP, nN, nA, n0, nS]
    with_reducible refine wk ?_
    try simp only [nP, nN, nA, n0, nS]
    with_reducible refine wk ?_
    try simp only [nP, nN, nA, n0, nS]
    with_reducible refine wv (.bool true) ?_
    try simp only [nP, nN, nA, n0, nS]
    refine wpList_nil ?_
    exact hjK5 _ _ _ _ _ _ _ _ _ _ _ _ _ _ _ _ _ _ _ _ _ _ _ _ _ _ _ _ _ _ _ _ _ _ _ _ _ _ _ _ _ _ _ _ _ _ _ _ _ _ _ _ _ true _ Zb2 Zb3 ee (by first | (simp only [hb32, hb33, hb34, hb35, hb36]; done) | (simp only [hb32, hb33, hb34, hb35, hb36]; rfl) | simp [hb32, hb33, hb34, hb35, hb36])
  with_reducible refine wv (.bool false) ?_
  try simp only [nP, nN, nA, n0, nS]
  with_reducible refine wv (.bool false) ?_
  try simp only [nP, nN, nA, n0, nS]
  with_reducible refine wv (.bool false) ?_
  try simp only [nP, nN, nA, n0, nS]
  with_reducible refine wv (.pointer (some ⟨g2, 5, none⟩)) ?_
  try simp only [nP, nN, nA, n0, nS]
  with_reducible refine wg (g2) (5) ([.int .u32 (a.vr : Int), .int .i64 a.vn]) (rowMid Zb2 (5) (partOf 5 (by kernel_rfl))) Tryd.underlying44 ?_
  try simp only [nP, nN, nA, n0, nS]
  with_reducible refine wv (.pointer (some ⟨g3, 5, none⟩)) ?_
  try simp only [nP, nN, nA, n0, nS]
  with_reducible refine wg (g3) (5) ([.int .u32 (b.vr : Int), .int .i64 b.vn]) (rowMid Zb3 (5) (partOf 5 (by kernel_rfl))) Tryd.underlying44 ?_
  try simp only [nP, nN, nA, n0, nS]
  obtain ⟨b41, hb41⟩ : ∃ d_ : Bool, (decide (a.vr = b.vr ∧ a.vn = b.vn)) = d_ := ⟨_, rfl⟩
  cases b41
  · with_reducible refine wb (.bool true) (.agg ([.int .u32 (a.vr : Int), .int .i64 a.vn]).toArray) (.agg ([.int .u32 (b.vr : Int), .int .i64 b.vn]).toArray) 44 (run_neOfEq (by have := B.run_eqRBal a.vr a.vn b.vr b.vn z2; rw [hb41] at this; exact this)) ?_
    try simp only [nP, nN, nA, n0, nS]
    with_reducible refine wv (.bool true) ?_
    try simp only [nP, nN, nA, n0, nS]
    with_reducible refine wv (.bool true) ?_
    try simp only [nP, nN, nA, n0, nS]
    with_reducible refine wk ?_
    try simp only [nP, nN, nA, n0, nS]
    with_reducible refine wk ?_
    try simp only [nP, nN, nA, n0, nS]
    with_reducible refine wk ?_
    try simp only [nP, nN, nA, n0, nS]
    with_reducible refine wk ?_
    try simp only [nP, nN, nA, n0, nS]
    with_reducible refine wk ?_
    try simp only [nP, nN, nA, n0, nS]
    with_reducible refine wv (.bool true) ?_
    try simp only [nP, nN, nA, n0, nS]
    with_reducible refine wv (.bool true) ?_
    try simp only [nP, nN, nA, n0, nS]
    with_reducible refine wk ?_
    try simp only [nP, nN, nA, n0, nS]
    with_reducible refine wk ?_
    try simp only [nP, nN, nA, n0, nS]
    with_reducible refine wk ?_
    try simp only [nP, nN, nA, n0, nS]
    with_reducible refine wk ?_
    try simp only [nP, nN, nA, n0, nS]
    with_reducible refine wk ?_
    try simp only [nP, nN, nA, n0, nS]
    with_reducible refine wv (.bool true) ?_
    try simp only [nP, nN, nA, n0, nS]
    with_reducible refine wv (.bool true) ?_
    try simp only [nP, nN, nA, n0, nS]
    with_reducible refine wk ?_
    try simp only [nP, nN, nA, n0, nS]
    with_reducible refine wk ?_
    try simp only [nP, nN, nA, n0, nS]
    with_reducible refine wk ?_
    try simp only [nP, nN, nA, n0, nS]
    with_reducible refine wk ?_
    try simp only [nP, nN, nA, n0, nS]
    with_reducible refine wk ?_
    try simp only [nP, nN, nA, n0, nS]
    with_reducible refine wv (.bool true) ?_
    try simp only [nP, nN, nA, n0, nS]
    refine wpList_nil ?_
    exact hjK5 _ _ _ _ _ _ _ _ _ _ _ _ _ _ _ _ _ _ _ _ _ _ _ _ _ _ _ _ _ _ _ _ _ _ _ _ _ _ _ _ _ _ _ _ _ _ _ _ _ _ _ _ _ true _ Zb2 Zb3 ee (by first | (simp only [hb32, hb33, hb34, hb35, hb36, hb41]; done) | (simp only [hb32, hb33, hb34, hb35, hb36, hb41]; rfl) | simp [hb32, hb33, hb34, hb35, hb36, hb41])
  with_reducible refine wb (.bool false) (.agg ([.int .u32 (a.vr : Int), .int .i64 a.vn]).toArray) (.agg ([.int .u32 (b.vr : Int), .int .i64 b.vn]).toArray) 44 (run_neOfEq (by have := B.run_eqRBal a.vr a.vn b.vr b.vn z2; rw [hb41] at this; exact this)) ?_
  try simp only [nP, nN, nA, n0, nS]
  with_reducible refine wv (.bool false) ?_
  try simp only [nP, nN, nA, n0, nS]
  with_reducible refine wv (.bool false) ?_
  try simp only [nP, nN, nA, n0, nS]
  with_reducible refine wv (.pointer (some ⟨g2, 21, none⟩)) ?_
  try simp only [nP, nN, nA, n0, nS]
  with_reducible refine wg (g2) (21) ([.int .i64 a.ii, .int .i64 a.ij]) (rowMid Zb2 (21) (partOf 21 (by kernel_rfl))) Tryd.underlying26 ?_
  try simp only [nP, nN, nA, n0, nS]
  with_reducible refine wv (.pointer (some ⟨g3, 21, none⟩)) ?_
  try simp only [nP, nN, nA, n0, nS]
  with_reducible refine wg (g3) (21) ([.int .i64 b.ii, .int .i64 b.ij]) (rowMid Zb3 (21) (partOf 21 (by kernel_rfl))) Tryd.underlying26 ?_
  try simp only [nP, nN, nA, n0, nS]
  obtain ⟨b42, hb42⟩ : ∃ d_ : Bool, (decide (a.ii = b.ii ∧ a.ij = b.ij)) = d_ := ⟨_, rfl⟩
  cases b42
  · with_reducible refine wb (.bool true) (.agg ([.int .i64 a.ii, .int .i64 a.ij]).toArray) (.agg ([.int .i64 b.ii, .int .i64 b.ij]).toArray) 26 (run_neOfEq (by have := run_eqId a.ii a.ij b.ii b.ij z2; rw [hb42] at this; exact this)) ?_
    try simp only [nP, nN, nA, n0, nS]
    with_reducible refine wv (.bool true) ?_
    try simp only [nP, nN, nA, n0, nS]
    with_reducible refine wv (.bool true) ?_
    try simp only [nP, nN, nA, n0, nS]
    with_reducible refine wk ?_
    try simp only [nP, nN, nA, n0, nS]
    with_reducible refine wk ?_
    try simp only [nP, nN, nA, n0, nS]
    with_reducible refine wk ?_
    try simp only [nP, nN, nA, n0, nS]
    with_reducible refine wk ?_
    try simp only [nP, nN, nA, n0, nS]
    with_reducible refine wk ?_
    try simp only [nP, nN, nA, n0, nS]
    with_reducible refine wv (.bool true) ?_
    try simp only [nP, nN, nA, n0, nS]
    with_reducible refine wv (.bool true) ?_
    try simp only [nP, nN, nA, n0, nS]
    with_reducible refine wk ?_
    try simp only [nP, nN, nA, n0, nS]
    with_reducible refine wk ?_
    try simp only [nP, nN, nA, n0, nS]
    with_reducible refine wk ?_
    try simp only [nP, nN, nA, n0, nS]
    with_reducible refine wk ?_
    try simp only [nP, nN, nA, n0, nS]
    with_reducible refine wk ?_
    try simp only [nP, nN, nA, n0, nS]
    with_reducible refine wv (.bool true) ?_
    try simp only [nP, nN, nA, n0, nS]
    refine wpList_nil ?_
    exact hjK5 _ _ _ _ _ _ _ _ _ _ _ _ _ _ _ _ _ _ _ _ _ _ _ _ _ _ _ _ _ _ _ _ _ _ _ _ _ _ _ _ _ _ _ _ _ _ _ _ _ _ _ _ _ true _ Zb2 Zb3 ee (by first | (simp only [hb32, hb33, hb34, hb35, hb36, hb41, hb42]; done) | (simp only [hb32, hb33, hb34, hb35, hb36, hb41, hb42]; rfl) | simp [hb32, hb33, hb34, hb35, hb36, hb41, hb42])
  with_reducible refine wb (.bool false) (.agg ([.int .i64 a.ii, .int .i64 a.ij]).toArray) (.agg ([.int .i64 b.ii, .int .i64 b.ij]).toArray) 26 (run_neOfEq (by have := run_eqId a.ii a.ij b.ii b.ij z2; rw [hb42] at this; exact this)) ?_
  try simp only [nP, nN, nA, n0, nS]
  with_reducible refine wv (.bool false) ?_
  try simp only [nP, nN, nA, n0, nS]
  with_reducible refine wv (.bool false) ?_
  try simp only [nP, nN, nA, n0, nS]
  with_reducible refine wv (.pointer (some ⟨g2, 23, none⟩)) ?_
  try simp only [nP, nN, nA, n0, nS]
  with_reducible refine wl (.int .i64 a.g) ⟨g2, 23, none⟩ (rowCell Zb2 (23) rfl) Tryd.underlying3 ?_
  try simp only [nP, nN, nA, n0, nS]
  with_reducible refine wv (.pointer (some ⟨g3, 23, none⟩)) ?_
  try simp only [nP, nN, nA, n0, nS]
  with_reducible refine wl (.int .i64 b.g) ⟨g3, 23, none⟩ (rowCell Zb3 (23) rfl) Tryd.underlying3 ?_
  try simp only [nP, nN, nA, n0, nS]
  obtain ⟨b43, hb43⟩ : ∃ d_ : Bool, (decide (a.g = b.g)) = d_ := ⟨_, rfl⟩
  cases b43
  · have pb43 : ¬ (a.g = b.g) := of_decide_eq_false hb43
    with_reducible refine wb (.bool true) (.int .i64 a.g) (.int .i64 b.g) 3 (run_neqI hb43) ?_
    try simp only [nP, nN, nA, n0, nS]
    with_reducible refine wv (.bool true) ?_
    try simp only [nP, nN, nA, n0, nS]
    with_reducible refine wv (.bool true) ?_
    try simp only [nP, nN, nA, n0, nS]
    with_reducible refine wk ?_
    try simp only [nP, nN, nA, n0, nS]
    with_reducible refine wk ?_
    try simp only [nP, nN, nA, n0, nS]
    with_reducible refine wk ?_
    try simp only [nP, nN, nA, n0, nS]
    with_reducible refine wk ?_
    try simp only [nP, nN, nA, n0, nS]
    with_reducible refine wk ?_
    try simp only [nP, nN, nA, n0, nS]
    with_reducible refine wv (.bool true) ?_
    try simp only [nP, nN, nA, n0, nS]
    refine wpList_nil ?_
    exact hjK5 _ _ _ _ _ _ _ _ _ _ _ _ _ _ _ _ _ _ _ _ _ _ _ _ _ _ _ _ _ _ _ _ _ _ _ _ _ _ _ _ _ _ _ _ _ _ _ _ _ _ _ _ _ true _ Zb2 Zb3 ee (by first | (simp only [hb32, hb33, hb34, hb35, hb36, hb41, hb42, hb43]; done) | (simp only [hb32, hb33, hb34, hb35, hb36, hb41, hb42, hb43]; rfl) | simp [hb32, hb33, hb34, hb35, hb36, hb41, hb42, hb43])
  have pb43 : a.g = b.g := of_decide_eq_true hb43
  with_reducible refine wb (.bool false) (.int .i64 a.g) (.int .i64 b.g) 3 (run_neqI hb43) ?_
  try simp only [nP, nN, nA, n0, nS]
  with_reducible refine wv (.bool false) ?_
  try simp only [nP, nN, nA, n0, nS]
  with_reducible refine wv (.bool false) ?_
  try simp only [nP, nN, nA, n0, nS]
  with_reducible refine wv (.pointer (some ⟨g2, 24, none⟩)) ?_
  try simp only [nP, nN, nA, n0, nS]
  with_reducible refine wl (.int .u64 ((a.st : Int))) ⟨g2, 24, none⟩ (rowCell Zb2 (24) rfl) Tryd.underlying31 ?_
  try simp only [nP, nN, nA, n0, nS]
  with_reducible refine wv (.pointer (some ⟨g3, 24, none⟩)) ?_
  try simp only [nP, nN, nA, n0, nS]
  with_reducible refine wl (.int .u64 ((b.st : Int))) ⟨g3, 24, none⟩ (rowCell Zb3 (24) rfl) Tryd.underlying31 ?_
  try simp only [nP, nN, nA, n0, nS]
  obtain ⟨b44, hb44⟩ : ∃ d_ : Bool, (decide ((a.st : Int) = (b.st : Int))) = d_ := ⟨_, rfl⟩
  cases b44
  · have pb44 : ¬ ((a.st : Int) = (b.st : Int)) := of_decide_eq_false hb44
    with_reducible refine wb (.bool true) (.int .u64 ((a.st : Int))) (.int .u64 ((b.st : Int))) 31 (run_neqI hb44) ?_
    try simp only [nP, nN, nA, n0, nS]
    with_reducible refine wv (.bool true) ?_
    try simp only [nP, nN, nA, n0, nS]
    refine wpList_nil ?_
    exact hjK5 _ _ _ _ _ _ _ _ _ _ _ _ _ _ _ _ _ _ _ _ _ _ _ _ _ _ _ _ _ _ _ _ _ _ _ _ _ _ _ _ _ _ _ _ _ _ _ _ _ _ _ _ _ true _ Zb2 Zb3 ee (by first | (simp only [hb32, hb33, hb34, hb35, hb36, hb41, hb42, hb43, hb44]; done) | (simp only [hb32, hb33, hb34, hb35, hb36, hb41, hb42, hb43, hb44]; rfl) | simp [hb32, hb33, hb34, hb35, hb36, hb41, hb42, hb43, hb44])
  have pb44 : (a.st : Int) = (b.st : Int) := of_decide_eq_true hb44
  with_reducible refine wb (.bool false) (.int .u64 ((a.st : Int))) (.int .u64 ((b.st : Int))) 31 (run_neqI hb44) ?_
  try simp only [nP, nN, nA, n0, nS]
  with_reducible refine wv (.bool false) ?_
  try simp only [nP, nN, nA, n0, nS]
  refine wpList_nil ?_
  exact hjK5 _ _ _ _ _ _ _ _ _ _ _ _ _ _ _ _ _ _ _ _ _ _ _ _ _ _ _ _ _ _ _ _ _ _ _ _ _ _ _ _ _ _ _ _ _ _ _ _ _ _ _ _ _ false _ Zb2 Zb3 ee (by first | (simp only [hb32, hb33, hb34, hb35, hb36, hb41, hb42, hb43, hb44]; done) | (simp only [hb32, hb33, hb34, hb35, hb36, hb41, hb42, hb43, hb44]; rfl) | simp [hb32, hb33, hb34, hb35, hb36, hb41, hb42, hb43, hb44])
theorem rsame_eq (a b : Ms) : T.Ms.rsame a b = a.same b := by
  rw [Bool.eq_iff_iff]
  unfold T.Ms.rsame T.Ms.same
  cases a.ha <;> cases b.ha <;> cases a.ye <;> cases b.ye <;> simp [Lib.toList_data] <;> grind
theorem rmsame_any (a b : Ms) (w : World) (B0 : Nat) (hB : B0 ≤ w.heap.size) (oka : MsOk w B0 a) (okb : MsOk w B0 b) (sa : a.small) (sb : b.small) : Calls Tryd.prog 19 #[.agg a.cells.toArray, .agg b.cells.toArray] w fun e w' => e = .returned (.bool (a.same b)) ∧ Below w.heap.size w w' := by
  have h := rmsame0 a b w B0 hB oka okb sa sb
  rw [rsame_eq] at h
  exact h
theorem rmformed_f (m : Ms) (w : World) (B0 : Nat) (hB : B0 ≤ w.heap.size) (ok : MsOk w B0 m) : Calls Tryd.prog 14 #[.agg m.cells.toArray] w fun e w' => e = .returned (.bool m.formed) ∧ Below w.heap.size w w' := by
  have h := rmformed_any m w B0 hB ok
  rw [← formed_eq] at h
  exact h
theorem msame_refl (m : Ms) (w : World) (B0 : Nat) (hB : B0 ≤ w.heap.size) (ok : MsOk w B0 m) : Calls Tryd.prog 18 #[.agg m.cells.toArray, .agg m.cells.toArray] w fun e w' => e = .returned (.bool true) ∧ Below w.heap.size w w' := by
  have h := msame_any m m w B0 hB ok ok
  rw [Ms.same_refl] at h
  exact h
set_option maxHeartbeats 25600000 in
theorem mforms_any (a b : Ms) (w : World) (oka : MsOk w w.heap.size a) (okb : MsOk w w.heap.size b) (hT : Tabs w) :
    Calls Tryd.prog 4 #[.agg a.cells.toArray, .agg b.cells.toArray] w fun e w' => e = .returned (.bool true) ∧ Below w.heap.size w w' := by
  have ee : Below w.heap.size w w := Below.refl _ _
  go_enter Tryd.func4, Tryd.ntmps4
  refine wp_seq_k fun K1 hK1 => ?_
  refine wp_region_lit ?_
  with_reducible refine ww (.pointer (some ⟨w.heap.size, 0, none⟩)) (w.alloc (.cells (a.cells).toArray 39)) ?_
  try simp only [nP, nN, nA, n0, nS]
  have sz_g2 := ee.size
  have sz_ := ee.size
  have ee := ee.alloc ee.size (.cells (a.cells).toArray 39)
  have Zb2 := hpN w (.cells (a.cells).toArray 39) rfl
  generalize w.alloc (.cells (a.cells).toArray 39) = z1 at Zb2 ee ⊢
  obtain ⟨g2, hg_g2⟩ : ∃ g_, g_ = w.heap.size := ⟨_, rfl⟩
  have hB_g2 : w.heap.size ≤ g2 := by rw [hg_g2]; exact sz_g2
  rw [← hg_g2] at Zb2 ⊢
  clear hg_g2
  with_reducible refine ww (.pointer (some ⟨z1.heap.size, 0, none⟩)) (z1.alloc (.cells (b.cells).toArray 39)) ?_
  try simp only [nP, nN, nA, n0, nS]
  have sz_g3 := ee.size
  have lZb2 := (Array.getElem?_eq_some_iff.1 Zb2).1
  have sz_ := ee.size
  have Zb2 := hpA Zb2 (.cells (b.cells).toArray 39)
  have ee := ee.alloc ee.size (.cells (b.cells).toArray 39)
  have Zb3 := hpN z1 (.cells (b.cells).toArray 39) rfl
  generalize z1.alloc (.cells (b.cells).toArray 39) = z2 at Zb2 Zb3 ee ⊢
  obtain ⟨g3, hg_g3⟩ : ∃ g_, g_ = z1.heap.size := ⟨_, rfl⟩
  have n_g3_Zb2 : g2 < g3 := by rw [hg_g3]; exact lZb2
  have hB_g3 : w.heap.size ≤ g3 := by rw [hg_g3]; exact sz_g3
  rw [← hg_g3] at Zb3 ⊢
  clear hg_g3 lZb2
  with_reducible refine wv (.bool false) ?_
  try simp only [nP, nN, nA, n0, nS]
  refine wpList_nil ?_
  refine hK1 _ _ ?_
  refine wp_seq_k fun K4 hK4 => ?_
  refine wp_seq_k fun K5 hK5 => ?_
  refine wp_region_lit ?_
  with_reducible refine wc 11 #[] (awake10_any z2 (hT.below ee)) ?_
  rintro e z3 ⟨rfl, t⟩
  refine ⟨_, rfl, ?_⟩
  have Zb2 := hpB Zb2 t
  have Zb3 := hpB Zb3 t
  have ee := ee.trans (t.mono ee.size)
  clear t
  try simp only [nP, nN, nA, n0, nS]
  with_reducible refine wv (.bool false) ?_
  try simp only [nP, nN, nA, n0, nS]
  with_reducible refine wv (.bool false) ?_
  try simp only [nP, nN, nA, n0, nS]
  with_reducible refine wg (g2) (0) (a.cells) (rowAt Zb2) Tryd.underlying39 ?_
  try simp only [nP, nN, nA, n0, nS]
  with_reducible refine wc 12 #[.agg (a.cells).toArray] (few10_any a z3 w.heap.size ee.size (oka.below ee (Nat.le_refl _))) ?_
  rintro e z4 ⟨⟨ra, rfl, hsa⟩, t⟩
  refine ⟨_, rfl, ?_⟩
  have Zb2 := hpB Zb2 t
  have Zb3 := hpB Zb3 t
  have ee := ee.trans (t.mono ee.size)
  clear t
  try simp only [nP, nN, nA, n0, nS]
  cases ra
  · with_reducible refine wv (.bool true) ?_
    try simp only [nP, nN, nA, n0, nS]
    with_reducible refine wv (.bool true) ?_
    try simp only [nP, nN, nA, n0, nS]
    with_reducible refine wv (.bool true) ?_
    try simp only [nP, nN, nA, n0, nS]
    with_reducible refine wk ?_
    try simp only [nP, nN, nA, n0, nS]
    with_reducible refine wk ?_
    try simp only [nP, nN, nA, n0, nS]
    with_reducible refine wk ?_
    try simp only [nP, nN, nA, n0, nS]
    with_reducible refine wv (.bool true) ?_
    try simp only [nP, nN, nA, n0, nS]
    refine wpList_nil ?_
    refine hK5 _ _ ?_
    refine wp_cond_true (by kernel_rfl) ?_
    refine wp_seq_k fun K6 hK6 => ?_
    refine wp_region_lit ?_
    with_reducible refine wc 11 #[] (awake10_any z4 (hT.below ee)) ?_
    rintro e z5 ⟨rfl, t⟩
    refine ⟨_, rfl, ?_⟩
    have Zb2 := hpB Zb2 t
    have Zb3 := hpB Zb3 t
    have ee := ee.trans (t.mono ee.size)
    clear t
    try simp only [nP, nN, nA, n0, nS]
    with_reducible refine wv (.bool true) ?_
    try simp only [nP, nN, nA, n0, nS]
    refine wpList_nil ?_
    refine hK6 _ _ ?_
    refine wp_ret ?_
    refine then_ret ?_
    exact bodyPost_ret (v := .bool true) (by kernel_rfl) rfl ⟨rfl, ee⟩
  with_reducible refine wv (.bool false) ?_
  try simp only [nP, nN, nA, n0, nS]
  with_reducible refine wv (.bool false) ?_
  try simp only [nP, nN, nA, n0, nS]
  with_reducible refine wv (.bool false) ?_
  try simp only [nP, nN, nA, n0, nS]
  with_reducible refine wg (g3) (0) (b.cells) (rowAt Zb3) Tryd.underlying39 ?_
  try simp only [nP, nN, nA, n0, nS]
  with_reducible refine wc 12 #[.agg (b.cells).toArray] (few10_any b z4 w.heap.size ee.size (okb.below ee (Nat.le_refl _))) ?_
  rintro e z5 ⟨⟨rb, rfl, hsb⟩, t⟩
  refine ⟨_, rfl, ?_⟩
  have Zb2 := hpB Zb2 t
  have Zb3 := hpB Zb3 t
  have ee := ee.trans (t.mono ee.size)
  clear t
  try simp only [nP, nN, nA, n0, nS]
  cases rb
  · with_reducible refine wv (.bool true) ?_
    try simp only [nP, nN, nA, n0, nS]
    with_reducible refine wv (.bool true) ?_
    try simp only [nP, nN, nA, n0, nS]
    refine wpList_nil ?_
    refine hK5 _ _ ?_
    refine wp_cond_true (by kernel_rfl) ?_
    refine wp_seq_k fun K7 hK7 => ?_
    refine wp_region_lit ?_
    with_reducible refine wc 11 #[] (awake10_any z5 (hT.below ee)) ?_
    rintro e z6 ⟨rfl, t⟩
    refine ⟨_, rfl, ?_⟩
    have Zb2 := hpB Zb2 t
    have Zb3 := hpB Zb3 t
    have ee := ee.trans (t.mono ee.size)
    clear t
    try simp only [nP, nN, nA, n0, nS]
    with_reducible refine wv (.bool true) ?_
    try simp only [nP, nN, nA, n0, nS]
    refine wpList_nil ?_
    refine hK7 _ _ ?_
    refine wp_ret ?_
    refine then_ret ?_
    exact bodyPost_ret (v := .bool true) (by kernel_rfl) rfl ⟨rfl, ee⟩
  with_reducible refine wv (.bool false) ?_
  try simp only [nP, nN, nA, n0, nS]
  with_reducible refine wv (.bool false) ?_
  try simp only [nP, nN, nA, n0, nS]
  refine wpList_nil ?_
  refine hK5 _ _ ?_
  refine wp_cond_false (by kernel_rfl) ?_
  refine wp_skip ?_
  refine hK4 _ _ ?_
  refine wp_seq_k fun K8 hK8 => ?_
  have Zb2 : z5.drew.heap[g2]? = some (.cells (a.cells).toArray 39) := Zb2
  have Zb3 : z5.drew.heap[g3]? = some (.cells (b.cells).toArray 39) := Zb3
  have ee := belowDrewS ee
  refine wp_region_held_drew (S := fun z' => z'.rangeAt g2 (0) a.cells ∧ z'.rangeAt g3 (0) b.cells) (by kernel_rfl) ⟨(rowAt Zb2), (rowAt Zb3)⟩ (fun hH => ?_)
  clear hH
  generalize z5.drew = z6 at Zb2 Zb3 ee ⊢
  refine wpAnyH_take (i := 0) (v := .agg (a.cells).toArray) rfl (by kernel_rfl) (by kernel_rfl) (by kernel_rfl) (fun _ _ _ h => h) (yieldsIf_load_mid (by rfl) 39 _ rfl (g2) (0) rfl (a.cells) _ (fun _ h => h.1) Tryd.underlying39 rfl sizeMs) ⟨(rowAt Zb2), (rowAt Zb3)⟩ ?_
  try simp only [nP, nN, nA, n0, nS, nG, List.getElem_cons_zero, List.getElem_cons_succ]
  refine wpAnyH_take (i := 2) (v := .agg (a.cells).toArray) rfl (by kernel_rfl) (by kernel_rfl) (by kernel_rfl) (fun _ _ _ h => h) (yieldsIf_load_mid (by rfl) 39 _ rfl (g2) (0) rfl (a.cells) _ (fun _ h => h.1) Tryd.underlying39 rfl sizeMs) ⟨(rowAt Zb2), (rowAt Zb3)⟩ ?_
  try simp only [nP, nN, nA, n0, nS, nG, List.getElem_cons_zero, List.getElem_cons_succ]
  refine wpAnyH_ready (rs := [1]) (by kernel_rfl) (by simp) ?_
  refine AllReadyH.cons rfl (fun K hK => ?_) AllReadyH.nil
  rw [if_pos (by rfl)]
  go_simp
  go_wp2_with (go_at_call 13; refine (mformed_any a z6 w.heap.size ee.size (oka.below ee (Nat.le_refl _)) (hT.below ee)).mono ?_; rintro e z7 ⟨rfl, t⟩)
  have Zb2 := hpB Zb2 t
  have Zb3 := hpB Zb3 t
  have ee := ee.trans (t.mono ee.size)
  clear t
  refine hK.out _ _ ⟨(rowAt Zb2), (rowAt Zb3)⟩ (fun hH => ?_)
  clear hK K hH
  try simp only [nP, nN, nA, n0, nS, nG, List.getElem_cons_zero, List.getElem_cons_succ]
  refine wpAnyH_ready (rs := [3]) (by kernel_rfl) (by simp) ?_
  refine AllReadyH.cons rfl (fun K hK => ?_) AllReadyH.nil
  rw [if_pos (by rfl)]
  go_simp
  go_wp2_with (go_at_call 15; refine (mplain_any a z7).mono ?_; rintro e z8 ⟨rfl, t⟩)
  have Zb2 := hpB Zb2 t
  have Zb3 := hpB Zb3 t
  have ee := ee.trans (t.mono ee.size)
  clear t
  refine hK.out _ _ ⟨(rowAt Zb2), (rowAt Zb3)⟩ (fun hH => ?_)
  clear hK K hH
  try simp only [nP, nN, nA, n0, nS, nG, List.getElem_cons_zero, List.getElem_cons_succ]
  refine wpAnyH_ready (rs := [4]) (by kernel_rfl) (by simp) ?_
  refine AllReadyH.cons rfl (fun K hK => ?_) AllReadyH.nil
  rw [if_pos (by rfl)]
  go_simp
  go_wp2_with (go_at_call 14; refine (rmformed_f a z8 w.heap.size ee.size (oka.below ee (Nat.le_refl _))).mono ?_; rintro e z9 ⟨rfl, t⟩)
  have Zb2 := hpB Zb2 t
  have Zb3 := hpB Zb3 t
  have ee := ee.trans (t.mono ee.size)
  clear t
  refine hK.out _ _ ⟨(rowAt Zb2), (rowAt Zb3)⟩ (fun hH => ?_)
  clear hK K hH
  try simp only [nP, nN, nA, n0, nS, nG, List.getElem_cons_zero, List.getElem_cons_succ]
  refine wpAnyH_take (i := 5) (v := .bool true) rfl (by kernel_rfl) (by kernel_rfl) (by kernel_rfl) (fun _ _ _ h => h) (Or.inl ⟨by rfl, fun w_ hS_ => by go_simp⟩) ⟨(rowAt Zb2), (rowAt Zb3)⟩ ?_
  try simp only [nP, nN, nA, n0, nS, nG, List.getElem_cons_zero, List.getElem_cons_succ]
  refine wpAnyH_take (i := 6) (v := .bool true) rfl (by kernel_rfl) (by kernel_rfl) (by kernel_rfl) (fun _ _ _ h => h) (Or.inl ⟨by rfl, fun w_ hS_ => by (first | (go_simp; done) | (go_simp; rfl))⟩) ⟨(rowAt Zb2), (rowAt Zb3)⟩ ?_
  try simp only [nP, nN, nA, n0, nS, nG, List.getElem_cons_zero, List.getElem_cons_succ]
  refine wpAnyH_take (i := 7) (v := .agg (a.cells).toArray) rfl (by kernel_rfl) (by kernel_rfl) (by kernel_rfl) (fun _ _ _ h => h) (yieldsIf_load_mid (by rfl) 39 _ rfl (g2) (0) rfl (a.cells) _ (fun _ h => h.1) Tryd.underlying39 rfl sizeMs) ⟨(rowAt Zb2), (rowAt Zb3)⟩ ?_
  try simp only [nP, nN, nA, n0, nS, nG, List.getElem_cons_zero, List.getElem_cons_succ]
  refine wpAnyH_take (i := 9) (v := .agg (a.cells).toArray) rfl (by kernel_rfl) (by kernel_rfl) (by kernel_rfl) (fun _ _ _ h => h) (yieldsIf_load_mid (by rfl) 39 _ rfl (g2) (0) rfl (a.cells) _ (fun _ h => h.1) Tryd.underlying39 rfl sizeMs) ⟨(rowAt Zb2), (rowAt Zb3)⟩ ?_
  try simp only [nP, nN, nA, n0, nS, nG, List.getElem_cons_zero, List.getElem_cons_succ]
  refine wpAnyH_ready (rs := [8]) (by kernel_rfl) (by simp) ?_
  refine AllReadyH.cons rfl (fun K hK => ?_) AllReadyH.nil
  rw [if_pos (by rfl)]
  go_simp
  go_wp2_with (go_at_call 16; refine (mlabel_any a z9).mono ?_; rintro e z10 ⟨rfl, t⟩)
  have Zb2 := hpB Zb2 t
  have Zb3 := hpB Zb3 t
  have ee := ee.trans (t.mono ee.size)
  clear t
  refine hK.out _ _ ⟨(rowAt Zb2), (rowAt Zb3)⟩ (fun hH => ?_)
  clear hK K hH
  try simp only [nP, nN, nA, n0, nS, nG, List.getElem_cons_zero, List.getElem_cons_succ]
  refine wpAnyH_ready (rs := [10]) (by kernel_rfl) (by simp) ?_
  refine AllReadyH.cons rfl (fun K hK => ?_) AllReadyH.nil
  rw [if_pos (by rfl)]
  go_simp
  go_wp2_with (go_at_call 15; refine (mplain_any a z10).mono ?_; rintro e z11 ⟨rfl, t⟩)
  have Zb2 := hpB Zb2 t
  have Zb3 := hpB Zb3 t
  have ee := ee.trans (t.mono ee.size)
  clear t
  refine hK.out _ _ ⟨(rowAt Zb2), (rowAt Zb3)⟩ (fun hH => ?_)
  clear hK K hH
  try simp only [nP, nN, nA, n0, nS, nG, List.getElem_cons_zero, List.getElem_cons_succ]
  refine wpAnyH_ready (rs := [11]) (by kernel_rfl) (by simp) ?_
  refine AllReadyH.cons rfl (fun K hK => ?_) AllReadyH.nil
  rw [if_pos (by rfl)]
  go_simp
  go_wp2_with (go_at_call 17; refine (rmlabel_any a z11).mono ?_; rintro e z12 ⟨rfl, t⟩)
  have Zb2 := hpB Zb2 t
  have Zb3 := hpB Zb3 t
  have ee := ee.trans (t.mono ee.size)
  clear t
  refine hK.out _ _ ⟨(rowAt Zb2), (rowAt Zb3)⟩ (fun hH => ?_)
  clear hK K hH
  try simp only [nP, nN, nA, n0, nS, nG, List.getElem_cons_zero, List.getElem_cons_succ]
  refine wpAnyH_take (i := 12) (v := .bool true) rfl (by kernel_rfl) (by kernel_rfl) (by kernel_rfl) (fun _ _ _ h => h) (Or.inl ⟨by rfl, fun w_ hS_ => by have h_ := run_eqId a.label.1 a.label.2 a.label.1 a.label.2 w_; simp only [and_self, decide_true] at h_; go_simp⟩) ⟨(rowAt Zb2), (rowAt Zb3)⟩ ?_
  try simp only [nP, nN, nA, n0, nS, nG, List.getElem_cons_zero, List.getElem_cons_succ]
  refine wpAnyH_take (i := 13) (v := .bool true) rfl (by kernel_rfl) (by kernel_rfl) (by kernel_rfl) (fun _ _ _ h => h) (Or.inl ⟨by rfl, fun w_ hS_ => by (first | (go_simp; done) | (go_simp; rfl))⟩) ⟨(rowAt Zb2), (rowAt Zb3)⟩ ?_
  try simp only [nP, nN, nA, n0, nS, nG, List.getElem_cons_zero, List.getElem_cons_succ]
  refine wpAnyH_take (i := 14) (v := .bool true) rfl (by kernel_rfl) (by kernel_rfl) (by kernel_rfl) (fun _ _ _ h => h) (Or.inl ⟨by rfl, fun w_ hS_ => by (first | (go_simp; done) | (go_simp; rfl))⟩) ⟨(rowAt Zb2), (rowAt Zb3)⟩ ?_
  try simp only [nP, nN, nA, n0, nS, nG, List.getElem_cons_zero, List.getElem_cons_succ]
  refine wpAnyH_take (i := 15) (v := .agg (a.cells).toArray) rfl (by kernel_rfl) (by kernel_rfl) (by kernel_rfl) (fun _ _ _ h => h) (yieldsIf_load_mid (by rfl) 39 _ rfl (g2) (0) rfl (a.cells) _ (fun _ h => h.1) Tryd.underlying39 rfl sizeMs) ⟨(rowAt Zb2), (rowAt Zb3)⟩ ?_
  try simp only [nP, nN, nA, n0, nS, nG, List.getElem_cons_zero, List.getElem_cons_succ]
  refine wpAnyH_take (i := 16) (v := .agg (b.cells).toArray) rfl (by kernel_rfl) (by kernel_rfl) (by kernel_rfl) (fun _ _ _ h => h) (yieldsIf_load_mid (by rfl) 39 _ rfl (g3) (0) rfl (b.cells) _ (fun _ h => h.2) Tryd.underlying39 rfl sizeMs) ⟨(rowAt Zb2), (rowAt Zb3)⟩ ?_
  try simp only [nP, nN, nA, n0, nS, nG, List.getElem_cons_zero, List.getElem_cons_succ]
  refine wpAnyH_take (i := 18) (v := .agg (a.cells).toArray) rfl (by kernel_rfl) (by kernel_rfl) (by kernel_rfl) (fun _ _ _ h => h) (yieldsIf_load_mid (by rfl) 39 _ rfl (g2) (0) rfl (a.cells) _ (fun _ h => h.1) Tryd.underlying39 rfl sizeMs) ⟨(rowAt Zb2), (rowAt Zb3)⟩ ?_
  try simp only [nP, nN, nA, n0, nS, nG, List.getElem_cons_zero, List.getElem_cons_succ]
  refine wpAnyH_take (i := 20) (v := .agg (b.cells).toArray) rfl (by kernel_rfl) (by kernel_rfl) (by kernel_rfl) (fun _ _ _ h => h) (yieldsIf_load_mid (by rfl) 39 _ rfl (g3) (0) rfl (b.cells) _ (fun _ h => h.2) Tryd.underlying39 rfl sizeMs) ⟨(rowAt Zb2), (rowAt Zb3)⟩ ?_
  try simp only [nP, nN, nA, n0, nS, nG, List.getElem_cons_zero, List.getElem_cons_succ]
  refine wpAnyH_ready (rs := [17]) (by kernel_rfl) (by simp) ?_
  refine AllReadyH.cons rfl (fun K hK => ?_) AllReadyH.nil
  rw [if_pos (by rfl)]
  go_simp
  go_wp2_with (go_at_call 18; refine (msame_any a b z12 w.heap.size ee.size (oka.below ee (Nat.le_refl _)) (okb.below ee (Nat.le_refl _))).mono ?_; rintro e z13 ⟨rfl, t⟩)
  have Zb2 := hpB Zb2 t
  have Zb3 := hpB Zb3 t
  have ee := ee.trans (t.mono ee.size)
  clear t
  refine hK.out _ _ ⟨(rowAt Zb2), (rowAt Zb3)⟩ (fun hH => ?_)
  clear hK K hH
  try simp only [nP, nN, nA, n0, nS, nG, List.getElem_cons_zero, List.getElem_cons_succ]
  refine wpAnyH_ready (rs := [19]) (by kernel_rfl) (by simp) ?_
  refine AllReadyH.cons rfl (fun K hK => ?_) AllReadyH.nil
  rw [if_pos (by rfl)]
  go_simp
  go_wp2_with (go_at_call 15; refine (mplain_any a z13).mono ?_; rintro e z14 ⟨rfl, t⟩)
  have Zb2 := hpB Zb2 t
  have Zb3 := hpB Zb3 t
  have ee := ee.trans (t.mono ee.size)
  clear t
  refine hK.out _ _ ⟨(rowAt Zb2), (rowAt Zb3)⟩ (fun hH => ?_)
  clear hK K hH
  try simp only [nP, nN, nA, n0, nS, nG, List.getElem_cons_zero, List.getElem_cons_succ]
  refine wpAnyH_ready (rs := [21]) (by kernel_rfl) (by simp) ?_
  refine AllReadyH.cons rfl (fun K hK => ?_) AllReadyH.nil
  rw [if_pos (by rfl)]
  go_simp
  go_wp2_with (go_at_call 15; refine (mplain_any b z14).mono ?_; rintro e z15 ⟨rfl, t⟩)
  have Zb2 := hpB Zb2 t
  have Zb3 := hpB Zb3 t
  have ee := ee.trans (t.mono ee.size)
  clear t
  refine hK.out _ _ ⟨(rowAt Zb2), (rowAt Zb3)⟩ (fun hH => ?_)
  clear hK K hH
  try simp only [nP, nN, nA, n0, nS, nG, List.getElem_cons_zero, List.getElem_cons_succ]
  refine wpAnyH_ready (rs := [22]) (by kernel_rfl) (by simp) ?_
  refine AllReadyH.cons rfl (fun K hK => ?_) AllReadyH.nil
  rw [if_pos (by rfl)]
  go_simp
  go_wp2_with (go_at_call 19; refine (rmsame_any a b z15 w.heap.size ee.size (oka.below ee (Nat.le_refl _)) (okb.below ee (Nat.le_refl _)) (hsa (by trivial)) (hsb (by trivial))).mono ?_; rintro e z16 ⟨rfl, t⟩)
  have Zb2 := hpB Zb2 t
  have Zb3 := hpB Zb3 t
  have ee := ee.trans (t.mono ee.size)
  clear t
  refine hK.out _ _ ⟨(rowAt Zb2), (rowAt Zb3)⟩ (fun hH => ?_)
  clear hK K hH
  try simp only [nP, nN, nA, n0, nS, nG, List.getElem_cons_zero, List.getElem_cons_succ]
  refine wpAnyH_take (i := 23) (v := .bool true) rfl (by kernel_rfl) (by kernel_rfl) (by kernel_rfl) (fun _ _ _ h => h) (Or.inl ⟨by rfl, fun w_ hS_ => by go_simp⟩) ⟨(rowAt Zb2), (rowAt Zb3)⟩ ?_
  try simp only [nP, nN, nA, n0, nS, nG, List.getElem_cons_zero, List.getElem_cons_succ]
  refine wpAnyH_take (i := 24) (v := .bool true) rfl (by kernel_rfl) (by kernel_rfl) (by kernel_rfl) (fun _ _ _ h => h) (Or.inl ⟨by rfl, fun w_ hS_ => by (first | (go_simp; done) | (go_simp; rfl))⟩) ⟨(rowAt Zb2), (rowAt Zb3)⟩ ?_
  try simp only [nP, nN, nA, n0, nS, nG, List.getElem_cons_zero, List.getElem_cons_succ]
  refine wpAnyH_take (i := 25) (v := .bool true) rfl (by kernel_rfl) (by kernel_rfl) (by kernel_rfl) (fun _ _ _ h => h) (Or.inl ⟨by rfl, fun w_ hS_ => by (first | (go_simp; done) | (go_simp; rfl))⟩) ⟨(rowAt Zb2), (rowAt Zb3)⟩ ?_
  try simp only [nP, nN, nA, n0, nS, nG, List.getElem_cons_zero, List.getElem_cons_succ]
  refine wpAnyH_take (i := 26) (v := .agg (a.cells).toArray) rfl (by kernel_rfl) (by kernel_rfl) (by kernel_rfl) (fun _ _ _ h => h) (yieldsIf_load_mid (by rfl) 39 _ rfl (g2) (0) rfl (a.cells) _ (fun _ h => h.1) Tryd.underlying39 rfl sizeMs) ⟨(rowAt Zb2), (rowAt Zb3)⟩ ?_
  try simp only [nP, nN, nA, n0, nS, nG, List.getElem_cons_zero, List.getElem_cons_succ]
  refine wpAnyH_take (i := 27) (v := .agg (a.cells).toArray) rfl (by kernel_rfl) (by kernel_rfl) (by kernel_rfl) (fun _ _ _ h => h) (yieldsIf_load_mid (by rfl) 39 _ rfl (g2) (0) rfl (a.cells) _ (fun _ h => h.1) Tryd.underlying39 rfl sizeMs) ⟨(rowAt Zb2), (rowAt Zb3)⟩ ?_
  try simp only [nP, nN, nA, n0, nS, nG, List.getElem_cons_zero, List.getElem_cons_succ]
  refine wpAnyH_ready (rs := [28]) (by kernel_rfl) (by simp) ?_
  refine AllReadyH.cons rfl (fun K hK => ?_) AllReadyH.nil
  rw [if_pos (by rfl)]
  go_simp
  go_wp2_with (go_at_call 18; refine (msame_refl a z16 w.heap.size ee.size (oka.below ee (Nat.le_refl _))).mono ?_; rintro e z17 ⟨rfl, t⟩)
  have Zb2 := hpB Zb2 t
  have Zb3 := hpB Zb3 t
  have ee := ee.trans (t.mono ee.size)
  clear t
  refine hK.out _ _ ⟨(rowAt Zb2), (rowAt Zb3)⟩ (fun hH => ?_)
  clear hK K hH
  try simp only [nP, nN, nA, n0, nS, nG, List.getElem_cons_zero, List.getElem_cons_succ]
  refine wpAnyH_take (i := 29) (v := .bool true) rfl (by kernel_rfl) (by kernel_rfl) (by kernel_rfl) (fun _ _ _ h => h) (Or.inl ⟨by rfl, fun w_ hS_ => by (first | (go_simp; done) | (go_simp; rfl))⟩) ⟨(rowAt Zb2), (rowAt Zb3)⟩ ?_
  try simp only [nP, nN, nA, n0, nS, nG, List.getElem_cons_zero, List.getElem_cons_succ]
  refine wpAnyH_take (i := 30) (v := .bool true) rfl (by kernel_rfl) (by kernel_rfl) (by kernel_rfl) (fun _ _ _ h => h) (Or.inl ⟨by rfl, fun w_ hS_ => by (first | (go_simp; done) | (go_simp; rfl))⟩) ⟨(rowAt Zb2), (rowAt Zb3)⟩ ?_
  try simp only [nP, nN, nA, n0, nS, nG, List.getElem_cons_zero, List.getElem_cons_succ]
  refine wpAnyH_done (by kernel_rfl) ?_ _
  refine hK8 _ _ ?_
  refine wp_ret ?_
  exact bodyPost_ret (v := .bool true) (by kernel_rfl) rfl ⟨rfl, ee⟩
theorem messageForms_walk (W : World) (hT : Tabs W) (v0 v1 : Value) (h0 : Arg W 39 v0) (h1 : Arg W 39 v1) :
    Calls Tryd.prog 4 #[v0, v1] W fun e W' => e = .returned (.bool true) ∧ Below W.heap.size W W' := by
  obtain ⟨a, rfl, oka⟩ := h0.ms
  obtain ⟨b, rfl, okb⟩ := h1.ms
  exact mforms_any a b W oka okb hT
end Go.Proofs.YtjofjpmhokjhnaaDoor
