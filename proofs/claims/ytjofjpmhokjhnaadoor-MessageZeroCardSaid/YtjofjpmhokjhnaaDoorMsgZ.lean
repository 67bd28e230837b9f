/- What isn't used is zero in a formed message: the plain law of MessageZero. Conditions: what lies, lies below. (Printed by gen_msg.py.) -/
import Derived.Test.YtjofjpmhokjhnaaDoorMsgG
namespace Go.Proofs.YtjofjpmhokjhnaaDoor
set_option maxRecDepth 20000
open Go.RowKit T
set_option linter.unusedSimpArgs false
set_option linter.unusedVariables false

theorem put_br (m o : Ms) (l : Nat) (h : l ≠ 66) : (m.put o l).br = o.br := by
  unfold Ms.put
  rw [if_neg h]
  by_cases l83 : l = 83
  · rw [if_pos l83]
  rw [if_neg l83]
  by_cases l72 : l = 72
  · rw [if_pos l72]
    cases hb : m.ha with
    | true => rw [if_pos rfl]
    | false => rw [if_neg (by decide)]
  rw [if_neg l72]
  by_cases l67 : l = 67
  · rw [if_pos l67]
  rw [if_neg l67]
  by_cases l84 : l = 84
  · rw [if_pos l84]
  rw [if_neg l84]
  by_cases l73 : l = 73
  · rw [if_pos l73]
  rw [if_neg l73]
  by_cases l71 : l = 71
  · rw [if_pos l71]
  rw [if_neg l71]
  by_cases l80 : l = 80
  · rw [if_pos l80]
  rw [if_neg l80]
  by_cases l89 : l = 89
  · rw [if_pos l89]
  rw [if_neg l89]
  by_cases l78 : l = 78
  · rw [if_pos l78]
  rw [if_neg l78]
  by_cases l75 : l = 75
  · rw [if_pos l75]
  rw [if_neg l75]
  by_cases l86 : l = 86
  · rw [if_pos l86]
  rw [if_neg l86]
  by_cases l88 : l = 88
  · rw [if_pos l88]
  rw [if_neg l88]
  by_cases l69 : l = 69
  · rw [if_pos l69]
  rw [if_neg l69]
  by_cases l68 : l = 68
  · rw [if_pos l68]
  rw [if_neg l68]
theorem fold_br (m : Ms) (ls : List UInt8) (h : ∀ l ∈ ls, l.toNat ≠ 66) (o : Ms) : (ls.foldl (fun o l => m.put o l.toNat) o).br = o.br := by
  induction ls generalizing o with
  | nil => rfl
  | cons c t ih =>
    rw [List.foldl_cons, ih (fun l hl => h l (by simp [hl]))]
    exact put_br m o _ (h c (by simp))
theorem un_br (k : Int) (h : 5 < k) : ∀ l ∈ fieldsOf k, l.toNat ≠ 66 := by
  by_cases k1 : k = 1
  · subst k1; exact absurd h (by decide)
  by_cases k3 : k = 3
  · subst k3; exact absurd h (by decide)
  by_cases k2 : k = 2
  · subst k2; exact absurd h (by decide)
  by_cases k4 : k = 4
  · subst k4; exact absurd h (by decide)
  by_cases k5 : k = 5
  · subst k5; exact absurd h (by decide)
  by_cases k6 : k = 6
  · subst k6; decide
  by_cases k7 : k = 7
  · subst k7; decide
  by_cases k8 : k = 8
  · subst k8; decide
  by_cases k9 : k = 9
  · subst k9; decide
  by_cases k10 : k = 10
  · subst k10; decide
  by_cases k11 : k = 11
  · subst k11; decide
  by_cases k12 : k = 12
  · subst k12; decide
  by_cases k13 : k = 13
  · subst k13; decide
  by_cases k14 : k = 14
  · subst k14; decide
  by_cases k15 : k = 15
  · subst k15; decide
  rw [show fieldsOf k = [] from by unfold fieldsOf; simp only [k1, k3, k2, k4, k5, k6, k7, k8, k9, k10, k11, k12, k13, k14, k15, if_false, or_self]]
  intro l hl
  cases hl
theorem only_br (m : Ms) (h : 5 < m.kd) : m.only.br = 0 := by
  unfold Ms.only
  rw [fold_br m _ (un_br m.kd h)]; rfl
theorem put_ts (m o : Ms) (l : Nat) (h : l ≠ 84) : (m.put o l).t.s = o.t.s := by
  unfold Ms.put
  by_cases l66 : l = 66
  · rw [if_pos l66]
  rw [if_neg l66]
  by_cases l83 : l = 83
  · rw [if_pos l83]
  rw [if_neg l83]
  by_cases l72 : l = 72
  · rw [if_pos l72]
    cases hb : m.ha with
    | true => rw [if_pos rfl]
    | false => rw [if_neg (by decide)]
  rw [if_neg l72]
  by_cases l67 : l = 67
  · rw [if_pos l67]
  rw [if_neg l67]
  rw [if_neg h]
  by_cases l73 : l = 73
  · rw [if_pos l73]
  rw [if_neg l73]
  by_cases l71 : l = 71
  · rw [if_pos l71]
  rw [if_neg l71]
  by_cases l80 : l = 80
  · rw [if_pos l80]
  rw [if_neg l80]
  by_cases l89 : l = 89
  · rw [if_pos l89]
  rw [if_neg l89]
  by_cases l78 : l = 78
  · rw [if_pos l78]
  rw [if_neg l78]
  by_cases l75 : l = 75
  · rw [if_pos l75]
  rw [if_neg l75]
  by_cases l86 : l = 86
  · rw [if_pos l86]
  rw [if_neg l86]
  by_cases l88 : l = 88
  · rw [if_pos l88]
  rw [if_neg l88]
  by_cases l69 : l = 69
  · rw [if_pos l69]
  rw [if_neg l69]
  by_cases l68 : l = 68
  · rw [if_pos l68]
  rw [if_neg l68]
theorem fold_ts (m : Ms) (ls : List UInt8) (h : ∀ l ∈ ls, l.toNat ≠ 84) (o : Ms) : (ls.foldl (fun o l => m.put o l.toNat) o).t.s = o.t.s := by
  induction ls generalizing o with
  | nil => rfl
  | cons c t ih =>
    rw [List.foldl_cons, ih (fun l hl => h l (by simp [hl]))]
    exact put_ts m o _ (h c (by simp))
theorem un_ts (k : Int) (h : k ≠ 8) : ∀ l ∈ fieldsOf k, l.toNat ≠ 84 := by
  by_cases k1 : k = 1
  · subst k1; decide
  by_cases k3 : k = 3
  · subst k3; decide
  by_cases k2 : k = 2
  · subst k2; decide
  by_cases k4 : k = 4
  · subst k4; decide
  by_cases k5 : k = 5
  · subst k5; decide
  by_cases k6 : k = 6
  · subst k6; decide
  by_cases k7 : k = 7
  · subst k7; decide
  by_cases k8 : k = 8
  · subst k8; exact absurd h (by decide)
  by_cases k9 : k = 9
  · subst k9; decide
  by_cases k10 : k = 10
  · subst k10; decide
  by_cases k11 : k = 11
  · subst k11; decide
  by_cases k12 : k = 12
  · subst k12; decide
  by_cases k13 : k = 13
  · subst k13; decide
  by_cases k14 : k = 14
  · subst k14; decide
  by_cases k15 : k = 15
  · subst k15; decide
  rw [show fieldsOf k = [] from by unfold fieldsOf; simp only [k1, k3, k2, k4, k5, k6, k7, k8, k9, k10, k11, k12, k13, k14, k15, if_false, or_self]]
  intro l hl
  cases hl
theorem only_ts (m : Ms) (h : m.kd ≠ 8) : m.only.t.s = 0 := by
  unfold Ms.only
  rw [fold_ts m _ (un_ts m.kd h)]; rfl
theorem put_ve (m o : Ms) (l : Nat) (h : l ≠ 86) : (m.put o l).ve = o.ve := by
  unfold Ms.put
  by_cases l66 : l = 66
  · rw [if_pos l66]
  rw [if_neg l66]
  by_cases l83 : l = 83
  · rw [if_pos l83]
  rw [if_neg l83]
  by_cases l72 : l = 72
  · rw [if_pos l72]
    cases hb : m.ha with
    | true => rw [if_pos rfl]
    | false => rw [if_neg (by decide)]
  rw [if_neg l72]
  by_cases l67 : l = 67
  · rw [if_pos l67]
  rw [if_neg l67]
  by_cases l84 : l = 84
  · rw [if_pos l84]
  rw [if_neg l84]
  by_cases l73 : l = 73
  · rw [if_pos l73]
  rw [if_neg l73]
  by_cases l71 : l = 71
  · rw [if_pos l71]
  rw [if_neg l71]
  by_cases l80 : l = 80
  · rw [if_pos l80]
  rw [if_neg l80]
  by_cases l89 : l = 89
  · rw [if_pos l89]
  rw [if_neg l89]
  by_cases l78 : l = 78
  · rw [if_pos l78]
  rw [if_neg l78]
  by_cases l75 : l = 75
  · rw [if_pos l75]
  rw [if_neg l75]
  rw [if_neg h]
  by_cases l88 : l = 88
  · rw [if_pos l88]
  rw [if_neg l88]
  by_cases l69 : l = 69
  · rw [if_pos l69]
  rw [if_neg l69]
  by_cases l68 : l = 68
  · rw [if_pos l68]
  rw [if_neg l68]
theorem fold_ve (m : Ms) (ls : List UInt8) (h : ∀ l ∈ ls, l.toNat ≠ 86) (o : Ms) : (ls.foldl (fun o l => m.put o l.toNat) o).ve = o.ve := by
  induction ls generalizing o with
  | nil => rfl
  | cons c t ih =>
    rw [List.foldl_cons, ih (fun l hl => h l (by simp [hl]))]
    exact put_ve m o _ (h c (by simp))
theorem un_ve (k : Int) (h : k ≠ 13) : ∀ l ∈ fieldsOf k, l.toNat ≠ 86 := by
  by_cases k1 : k = 1
  · subst k1; decide
  by_cases k3 : k = 3
  · subst k3; decide
  by_cases k2 : k = 2
  · subst k2; decide
  by_cases k4 : k = 4
  · subst k4; decide
  by_cases k5 : k = 5
  · subst k5; decide
  by_cases k6 : k = 6
  · subst k6; decide
  by_cases k7 : k = 7
  · subst k7; decide
  by_cases k8 : k = 8
  · subst k8; decide
  by_cases k9 : k = 9
  · subst k9; decide
  by_cases k10 : k = 10
  · subst k10; decide
  by_cases k11 : k = 11
  · subst k11; decide
  by_cases k12 : k = 12
  · subst k12; decide
  by_cases k13 : k = 13
  · subst k13; exact absurd h (by decide)
  by_cases k14 : k = 14
  · subst k14; decide
  by_cases k15 : k = 15
  · subst k15; decide
  rw [show fieldsOf k = [] from by unfold fieldsOf; simp only [k1, k3, k2, k4, k5, k6, k7, k8, k9, k10, k11, k12, k13, k14, k15, if_false, or_self]]
  intro l hl
  cases hl
theorem only_ve (m : Ms) (h : m.kd ≠ 13) : m.only.ve = 0 := by
  unfold Ms.only
  rw [fold_ve m _ (un_ve m.kd h)]; rfl
theorem put_nu (m o : Ms) (l : Nat) (h : l ≠ 78) : (m.put o l).nu = o.nu := by
  unfold Ms.put
  by_cases l66 : l = 66
  · rw [if_pos l66]
  rw [if_neg l66]
  by_cases l83 : l = 83
  · rw [if_pos l83]
  rw [if_neg l83]
  by_cases l72 : l = 72
  · rw [if_pos l72]
    cases hb : m.ha with
    | true => rw [if_pos rfl]
    | false => rw [if_neg (by decide)]
  rw [if_neg l72]
  by_cases l67 : l = 67
  · rw [if_pos l67]
  rw [if_neg l67]
  by_cases l84 : l = 84
  · rw [if_pos l84]
  rw [if_neg l84]
  by_cases l73 : l = 73
  · rw [if_pos l73]
  rw [if_neg l73]
  by_cases l71 : l = 71
  · rw [if_pos l71]
  rw [if_neg l71]
  by_cases l80 : l = 80
  · rw [if_pos l80]
  rw [if_neg l80]
  by_cases l89 : l = 89
  · rw [if_pos l89]
  rw [if_neg l89]
  rw [if_neg h]
  by_cases l75 : l = 75
  · rw [if_pos l75]
  rw [if_neg l75]
  by_cases l86 : l = 86
  · rw [if_pos l86]
  rw [if_neg l86]
  by_cases l88 : l = 88
  · rw [if_pos l88]
  rw [if_neg l88]
  by_cases l69 : l = 69
  · rw [if_pos l69]
  rw [if_neg l69]
  by_cases l68 : l = 68
  · rw [if_pos l68]
  rw [if_neg l68]
theorem fold_nu (m : Ms) (ls : List UInt8) (h : ∀ l ∈ ls, l.toNat ≠ 78) (o : Ms) : (ls.foldl (fun o l => m.put o l.toNat) o).nu = o.nu := by
  induction ls generalizing o with
  | nil => rfl
  | cons c t ih =>
    rw [List.foldl_cons, ih (fun l hl => h l (by simp [hl]))]
    exact put_nu m o _ (h c (by simp))
theorem un_nu (k : Int) (h : ¬ (12 ≤ k ∧ k ≤ 14)) : ∀ l ∈ fieldsOf k, l.toNat ≠ 78 := by
  by_cases k1 : k = 1
  · subst k1; decide
  by_cases k3 : k = 3
  · subst k3; decide
  by_cases k2 : k = 2
  · subst k2; decide
  by_cases k4 : k = 4
  · subst k4; decide
  by_cases k5 : k = 5
  · subst k5; decide
  by_cases k6 : k = 6
  · subst k6; decide
  by_cases k7 : k = 7
  · subst k7; decide
  by_cases k8 : k = 8
  · subst k8; decide
  by_cases k9 : k = 9
  · subst k9; decide
  by_cases k10 : k = 10
  · subst k10; decide
  by_cases k11 : k = 11
  · subst k11; decide
  by_cases k12 : k = 12
  · subst k12; exact absurd h (by decide)
  by_cases k13 : k = 13
  · subst k13; exact absurd h (by decide)
  by_cases k14 : k = 14
  · subst k14; exact absurd h (by decide)
  by_cases k15 : k = 15
  · subst k15; decide
  rw [show fieldsOf k = [] from by unfold fieldsOf; simp only [k1, k3, k2, k4, k5, k6, k7, k8, k9, k10, k11, k12, k13, k14, k15, if_false, or_self]]
  intro l hl
  cases hl
theorem only_nu (m : Ms) (h : ¬ (12 ≤ m.kd ∧ m.kd ≤ 14)) : m.only.nu = 0 := by
  unfold Ms.only
  rw [fold_nu m _ (un_nu m.kd h)]; rfl
theorem put_dt (m o : Ms) (l : Nat) (h : l ≠ 68) : (m.put o l).dt = o.dt := by
  unfold Ms.put
  by_cases l66 : l = 66
  · rw [if_pos l66]
  rw [if_neg l66]
  by_cases l83 : l = 83
  · rw [if_pos l83]
  rw [if_neg l83]
  by_cases l72 : l = 72
  · rw [if_pos l72]
    cases hb : m.ha with
    | true => rw [if_pos rfl]
    | false => rw [if_neg (by decide)]
  rw [if_neg l72]
  by_cases l67 : l = 67
  · rw [if_pos l67]
  rw [if_neg l67]
  by_cases l84 : l = 84
  · rw [if_pos l84]
  rw [if_neg l84]
  by_cases l73 : l = 73
  · rw [if_pos l73]
  rw [if_neg l73]
  by_cases l71 : l = 71
  · rw [if_pos l71]
  rw [if_neg l71]
  by_cases l80 : l = 80
  · rw [if_pos l80]
  rw [if_neg l80]
  by_cases l89 : l = 89
  · rw [if_pos l89]
  rw [if_neg l89]
  by_cases l78 : l = 78
  · rw [if_pos l78]
  rw [if_neg l78]
  by_cases l75 : l = 75
  · rw [if_pos l75]
  rw [if_neg l75]
  by_cases l86 : l = 86
  · rw [if_pos l86]
  rw [if_neg l86]
  by_cases l88 : l = 88
  · rw [if_pos l88]
  rw [if_neg l88]
  by_cases l69 : l = 69
  · rw [if_pos l69]
  rw [if_neg l69]
  rw [if_neg h]
theorem fold_dt (m : Ms) (ls : List UInt8) (h : ∀ l ∈ ls, l.toNat ≠ 68) (o : Ms) : (ls.foldl (fun o l => m.put o l.toNat) o).dt = o.dt := by
  induction ls generalizing o with
  | nil => rfl
  | cons c t ih =>
    rw [List.foldl_cons, ih (fun l hl => h l (by simp [hl]))]
    exact put_dt m o _ (h c (by simp))
theorem un_dt (k : Int) (h : k ≠ 15) : ∀ l ∈ fieldsOf k, l.toNat ≠ 68 := by
  by_cases k1 : k = 1
  · subst k1; decide
  by_cases k3 : k = 3
  · subst k3; decide
  by_cases k2 : k = 2
  · subst k2; decide
  by_cases k4 : k = 4
  · subst k4; decide
  by_cases k5 : k = 5
  · subst k5; decide
  by_cases k6 : k = 6
  · subst k6; decide
  by_cases k7 : k = 7
  · subst k7; decide
  by_cases k8 : k = 8
  · subst k8; decide
  by_cases k9 : k = 9
  · subst k9; decide
  by_cases k10 : k = 10
  · subst k10; decide
  by_cases k11 : k = 11
  · subst k11; decide
  by_cases k12 : k = 12
  · subst k12; decide
  by_cases k13 : k = 13
  · subst k13; decide
  by_cases k14 : k = 14
  · subst k14; decide
  by_cases k15 : k = 15
  · subst k15; exact absurd h (by decide)
  rw [show fieldsOf k = [] from by unfold fieldsOf; simp only [k1, k3, k2, k4, k5, k6, k7, k8, k9, k10, k11, k12, k13, k14, k15, if_false, or_self]]
  intro l hl
  cases hl
theorem only_dt (m : Ms) (h : m.kd ≠ 15) : m.only.dt = [] := by
  unfold Ms.only
  rw [fold_dt m _ (un_dt m.kd h)]; rfl
theorem notFit {m : Ms} (h : m.only.same m = false) : m.formed = false := by
  unfold Ms.formed Ms.fit
  rw [h]
  simp
theorem z_br (m : Ms) (h : 5 < m.kd) (hx : m.br ≠ 0) : m.formed = false := notFit (by
  unfold Ms.same
  rw [only_br m h, show decide ((0 : Nat) = m.br ∧ m.only.bn = m.bn) = false from decide_eq_false (fun q => hx q.1.symm)]
  simp)
theorem z_ts (m : Ms) (h : m.kd ≠ 8) (hx : m.t.s ≠ 0) : m.formed = false := notFit (by
  unfold Ms.same SameT
  rw [only_ts m h, show decide ((0 : Int) = m.t.s ∧ m.only.t.q = m.t.q ∧ m.only.t.rs = m.t.rs ∧ m.only.t.ws = m.t.ws) = false from decide_eq_false (fun q => hx q.1.symm)]
  simp)
theorem z_ve (m : Ms) (h : m.kd ≠ 13) (hx : m.ve ≠ 0) : m.formed = false := notFit (by
  unfold Ms.same
  rw [only_ve m h, show (((0 : Nat) : Int) == (m.ve : Int)) = false by simp; omega]
  simp)
theorem z_nu (m : Ms) (h : ¬ (12 ≤ m.kd ∧ m.kd ≤ 14)) (hx : m.nu ≠ 0) : m.formed = false := notFit (by
  unfold Ms.same
  rw [only_nu m h, show ((0 : Int) == m.nu) = false by simp; omega]
  simp)
theorem z_dt (m : Ms) (h : m.kd ≠ 15) (hx : m.dt ≠ []) : m.formed = false := notFit (by
  unfold Ms.same
  rw [only_dt m h, show decide ([] = m.dt) = false from decide_eq_false (fun q => hx q.symm)]
  simp)
/-- a command of kind 0 that has a group is no part of a formed message -/
theorem put_c (m o : Ms) (l : Nat) (h : l ≠ 67) (h2 : m.ha = false ∨ l ≠ 72) : (m.put o l).c = o.c := by
  unfold Ms.put
  by_cases l66 : l = 66
  · rw [if_pos l66]
  rw [if_neg l66]
  by_cases l83 : l = 83
  · rw [if_pos l83]
  rw [if_neg l83]
  by_cases l72 : l = 72
  · rw [if_pos l72]
    rcases h2 with h2 | h2
    · rw [if_neg (by rw [h2]; decide)]
    · exact absurd l72 h2
  rw [if_neg l72]
  rw [if_neg h]
  by_cases l84 : l = 84
  · rw [if_pos l84]
  rw [if_neg l84]
  by_cases l73 : l = 73
  · rw [if_pos l73]
  rw [if_neg l73]
  by_cases l71 : l = 71
  · rw [if_pos l71]
  rw [if_neg l71]
  by_cases l80 : l = 80
  · rw [if_pos l80]
  rw [if_neg l80]
  by_cases l89 : l = 89
  · rw [if_pos l89]
  rw [if_neg l89]
  by_cases l78 : l = 78
  · rw [if_pos l78]
  rw [if_neg l78]
  by_cases l75 : l = 75
  · rw [if_pos l75]
  rw [if_neg l75]
  by_cases l86 : l = 86
  · rw [if_pos l86]
  rw [if_neg l86]
  by_cases l88 : l = 88
  · rw [if_pos l88]
  rw [if_neg l88]
  by_cases l69 : l = 69
  · rw [if_pos l69]
  rw [if_neg l69]
  by_cases l68 : l = 68
  · rw [if_pos l68]
  rw [if_neg l68]
theorem fold_c (m : Ms) (ls : List UInt8) (h : ∀ l ∈ ls, l.toNat ≠ 67 ∧ (m.ha = false ∨ l.toNat ≠ 72)) (o : Ms) : (ls.foldl (fun o l => m.put o l.toNat) o).c = o.c := by
  induction ls generalizing o with
  | nil => rfl
  | cons c t ih =>
    rw [List.foldl_cons, ih (fun l hl => h l (by simp [hl]))]
    exact put_c m o _ (h c (by simp)).1 (h c (by simp)).2
theorem z_c (m : Ms) (hk : m.c.k = 0) (hg : m.c.g ≠ 0) : m.formed = false := by
  have hcf : m.c.formed = false := by
    unfold Cm.formed T.cformed
    rw [if_pos hk]
    exact decide_eq_false fun q => hg q.2.2.2.2.2.2.1
  by_cases h67 : (67 : UInt8) ∈ fieldsOf m.kd ∨ m.ha = true
  · unfold Ms.formed Ms.sound
    rw [hcf]
    have : (decide ((67 : UInt8) ∈ fieldsOf m.kd) || m.ha) = true := by
      rcases h67 with q | q
      · rw [decide_eq_true q]; rfl
      · rw [q]; simp
    rw [this]
    simp
  · refine notFit ?_
    have hha : m.ha = false := by
      cases q : m.ha with
      | false => rfl
      | true => exact absurd (.inr q) h67
    have hc : m.only.c = Cm.zero := by
      unfold Ms.only
      rw [fold_c m _ (fun l hl => ⟨fun e => h67 (.inl ?_), .inl hha⟩)]
      · rfl
      · have : l = 67 := UInt8.toNat_inj.1 e
        rw [← this]; exact hl
    unfold Ms.same
    rw [hc, show SameC Cm.zero m.c = false from by unfold SameC; exact decide_eq_false fun q => hg q.2.2.1.symm]
    simp
end Go.Proofs.YtjofjpmhokjhnaaDoor
