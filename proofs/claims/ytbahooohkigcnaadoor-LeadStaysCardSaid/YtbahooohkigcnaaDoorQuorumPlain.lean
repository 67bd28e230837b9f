/- What the set functions of layer 5 compute, on natural numbers: counts of bits. No condition; no program in sight. -/
import Derived.Laws.BitsAllLaws
namespace Go.Proofs.YtbahooohkigcnaaDoor.Q

/-- how many of the bits 0 .. n - 1 of a are set -/
def cnt (a : Nat) : Nat → Nat
  | 0 => 0
  | n + 1 => cnt a n + (if a.testBit n = true then 1 else 0)

theorem cnt_le (a n : Nat) : cnt a n ≤ n := by
  induction n with
  | zero => exact Nat.le_refl _
  | succ n ih => simp only [cnt]; split <;> omega

theorem cnt_add (a m n : Nat) : cnt a (m + n) = cnt a m + cnt (a / 2 ^ m) n := by
  induction n with
  | zero => simp [cnt]
  | succ n ih =>
    rw [← Nat.add_assoc]
    simp only [cnt]
    rw [ih, Nat.testBit_div_two_pow, Nat.add_comm n m]
    omega

theorem cnt_mod (a m n : Nat) (h : n ≤ m) : cnt (a % 2 ^ m) n = cnt a n := by
  induction n with
  | zero => rfl
  | succ n ih =>
    simp only [cnt]
    rw [ih (by omega), Nat.testBit_mod_two_pow]
    have : decide (n < m) = true := by simp; omega
    simp [this]

theorem cnt_congr (a b n : Nat) (h : ∀ i, i < n → a.testBit i = b.testBit i) : cnt a n = cnt b n := by
  induction n with
  | zero => rfl
  | succ n ih => simp only [cnt]; rw [ih (fun i hi => h i (by omega)), h n (by omega)]

theorem cnt_and_or (a b n : Nat) : cnt (a &&& b) n + cnt (a ||| b) n = cnt a n + cnt b n := by
  induction n with
  | zero => rfl
  | succ n ih =>
    simp only [cnt, Nat.testBit_and, Nat.testBit_or]
    cases a.testBit n <;> cases b.testBit n <;> simp <;> omega

theorem cnt_flip (a b n : Nat) (h : ∀ i, i < n → b.testBit i = !a.testBit i) : cnt a n + cnt b n = n := by
  induction n with
  | zero => rfl
  | succ n ih =>
    simp only [cnt]
    have := ih (fun i hi => h i (by omega))
    rw [h n (by omega)]
    cases a.testBit n <;> simp <;> omega

theorem cnt_zero_of_high (a m n : Nat) (h : a < 2 ^ m) : cnt a (m + n) = cnt a m := by
  rw [cnt_add, Nat.div_eq_of_lt h]
  have : ∀ k, cnt 0 k = 0 := by
    intro k
    induction k with
    | zero => rfl
    | succ k ih => simp [cnt, ih]
  rw [this]; rfl

theorem cnt_set (a i n : Nat) : cnt (a ||| 2 ^ i) n = cnt a n + (if i < n ∧ a.testBit i = false then 1 else 0) := by
  induction n with
  | zero => simp [cnt]
  | succ n ih =>
    simp only [cnt]
    rw [ih, Nat.testBit_or, Nat.testBit_two_pow]
    by_cases h : i = n
    · subst h
      cases a.testBit i <;> simp
    · have h1 : decide (i = n) = false := by simp [h]
      rw [h1]
      have h2 : (i < n + 1 ∧ a.testBit i = false) ↔ (i < n ∧ a.testBit i = false) := by
        constructor
        · rintro ⟨x, y⟩; exact ⟨by omega, y⟩
        · rintro ⟨x, y⟩; exact ⟨by omega, y⟩
      simp only [Bool.or_false]
      by_cases h3 : i < n ∧ a.testBit i = false
      · rw [if_pos h3, if_pos (h2.2 h3)]; omega
      · rw [if_neg h3, if_neg (fun x => h3 (h2.1 x))]; omega

/-! ### the trick with masks -/
def p1 (a : Nat) : Nat := (a / 2 &&& 6148914691236517205) + (a &&& 6148914691236517205)
def p2 (a : Nat) : Nat := (a / 4 &&& 3689348814741910323) + (a &&& 3689348814741910323)
def p3 (a : Nat) : Nat := (a / 16 + a) &&& 1085102592571150095

def rep (b : Nat) : Nat → Nat
  | 0 => 0
  | n + 1 => b + 256 * rep b n

theorem land_byte (x b m : Nat) (hb : b < 256) : x &&& (b + 256 * m) = ((x % 256) &&& b) + 256 * (x / 256 &&& m) := by
  have h1 : (x &&& (b + 256 * m)) % 2 ^ 8 = (x % 2 ^ 8) &&& ((b + 256 * m) % 2 ^ 8) := Nat.and_mod_two_pow
  have h2 : (x &&& (b + 256 * m)) / 2 ^ 8 = (x / 2 ^ 8) &&& ((b + 256 * m) / 2 ^ 8) := Nat.and_div_two_pow
  have h3 : (b + 256 * m) % 2 ^ 8 = b := by omega
  have h4 : (b + 256 * m) / 2 ^ 8 = m := by omega
  rw [h3] at h1
  rw [h4] at h2
  have h5 := Nat.mod_add_div (x &&& (b + 256 * m)) (2 ^ 8)
  rw [h1, h2] at h5
  exact h5.symm

def q1 (n a : Nat) : Nat := (a / 2 &&& rep 85 n) + (a &&& rep 85 n)
def q2 (n a : Nat) : Nat := (a / 4 &&& rep 51 n) + (a &&& rep 51 n)
def q3 (n a : Nat) : Nat := (a / 16 + a) &&& rep 15 n

theorem byte1 : ∀ b : Fin 128, ∀ c : Fin 2, (b.1 + 128 * c.1) &&& 85 = b.1 &&& 85 := by decide +kernel
theorem byte2 : ∀ b : Fin 64, ∀ c : Fin 4, (b.1 + 64 * c.1) &&& 51 = b.1 &&& 51 := by decide +kernel
theorem small1 : ∀ b : Fin 256, (b.1 / 2 &&& 85) + (b.1 &&& 85) < 256 := by decide +kernel
theorem small2 : ∀ b : Fin 256, (b.1 / 4 &&& 51) + (b.1 &&& 51) < 256 := by decide +kernel

theorem q1_step (n a : Nat) : q1 (n + 1) a = ((a % 256) / 2 &&& 85) + ((a % 256) &&& 85) + 256 * q1 n (a / 256) := by
  simp only [q1, rep]
  rw [land_byte _ 85 _ (by omega), land_byte a 85 _ (by omega)]
  have h1 : a / 2 % 256 = (a % 256) / 2 + 128 * (a / 256 % 2) := by omega
  have h2 : a / 2 / 256 = a / 256 / 2 := by omega
  have := byte1 ⟨(a % 256) / 2, by omega⟩ ⟨a / 256 % 2, by omega⟩
  simp only at this
  rw [h1, h2, this]
  omega
theorem q2_step (n a : Nat) : q2 (n + 1) a = ((a % 256) / 4 &&& 51) + ((a % 256) &&& 51) + 256 * q2 n (a / 256) := by
  simp only [q2, rep]
  rw [land_byte _ 51 _ (by omega), land_byte a 51 _ (by omega)]
  have h1 : a / 4 % 256 = (a % 256) / 4 + 64 * (a / 256 % 4) := by omega
  have h2 : a / 4 / 256 = a / 256 / 4 := by omega
  have := byte2 ⟨(a % 256) / 4, by omega⟩ ⟨a / 256 % 4, by omega⟩
  simp only at this
  rw [h1, h2, this]
  omega

/-- what one byte comes to -/
def pc2 (b : Nat) : Nat := let x := (b / 2 &&& 85) + (b &&& 85); (x / 4 &&& 51) + (x &&& 51)
def pc (b : Nat) : Nat := (pc2 b / 16 + pc2 b) &&& 15
theorem pc2_low : ∀ b : Fin 256, pc2 b.1 % 16 ≤ 4 ∧ pc2 b.1 / 16 ≤ 4 := by decide +kernel
theorem byte3 : ∀ b : Fin 137, ∀ c : Fin 8, (b.1 + 16 * c.1) &&& 15 = b.1 &&& 15 := by decide +kernel
theorem pc_cnt : ∀ b : Fin 256, pc b.1 = cnt b.1 8 := by decide +kernel

theorem q21_step (n a : Nat) : q2 (n + 1) (q1 (n + 1) a) = pc2 (a % 256) + 256 * q2 n (q1 n (a / 256)) := by
  have h := small1 ⟨a % 256, by omega⟩
  simp only at h
  rw [q2_step, q1_step]
  have h1 : (((a % 256) / 2 &&& 85) + ((a % 256) &&& 85) + 256 * q1 n (a / 256)) % 256 = ((a % 256) / 2 &&& 85) + ((a % 256) &&& 85) := by omega
  have h2 : (((a % 256) / 2 &&& 85) + ((a % 256) &&& 85) + 256 * q1 n (a / 256)) / 256 = q1 n (a / 256) := by omega
  rw [h1, h2]
  rfl

theorem q21_low (n a : Nat) : q2 n (q1 n a) % 16 ≤ 4 := by
  cases n with
  | zero => simp [q2, rep]
  | succ n =>
    rw [q21_step]
    have := (pc2_low ⟨a % 256, by omega⟩).1
    simp only at this
    omega

theorem q321_step (n a : Nat) : q3 (n + 1) (q2 (n + 1) (q1 (n + 1) a)) = pc (a % 256) + 256 * q3 n (q2 n (q1 n (a / 256))) := by
  have hl := q21_low n (a / 256)
  have hb := pc2_low ⟨a % 256, by omega⟩
  simp only at hb
  rw [q21_step]
  generalize q2 n (q1 n (a / 256)) = r at *
  simp only [q3, rep]
  rw [land_byte _ 15 _ (by omega)]
  have h1 : ((pc2 (a % 256) + 256 * r) / 16 + (pc2 (a % 256) + 256 * r)) % 256 = (pc2 (a % 256) / 16 + pc2 (a % 256)) + 16 * (r % 16) := by omega
  have h2 : ((pc2 (a % 256) + 256 * r) / 16 + (pc2 (a % 256) + 256 * r)) / 256 = r / 16 + r := by omega
  rw [h1, h2]
  have := byte3 ⟨pc2 (a % 256) / 16 + pc2 (a % 256), by omega⟩ ⟨r % 16, by omega⟩
  simp only at this
  rw [this]
  rfl

theorem p1_q1 (a : Nat) : p1 a = q1 8 a := rfl
theorem p2_q2 (a : Nat) : p2 a = q2 8 a := rfl
theorem p3_q3 (a : Nat) : p3 a = q3 8 a := rfl

theorem pc_le (b : Nat) (h : b < 256) : pc b ≤ 8 := by
  have := pc_cnt ⟨b, h⟩
  simp only at this
  rw [this]; exact cnt_le _ _

theorem p321 (a : Nat) : ∃ c0 c1 c2 c3 c4 c5 c6 c7 : Nat, p3 (p2 (p1 a)) = c0 + 256 * (c1 + 256 * (c2 + 256 * (c3 + 256 * (c4 + 256 * (c5 + 256 * (c6 + 256 * c7)))))) ∧
    c0 ≤ 8 ∧ c1 ≤ 8 ∧ c2 ≤ 8 ∧ c3 ≤ 8 ∧ c4 ≤ 8 ∧ c5 ≤ 8 ∧ c6 ≤ 8 ∧ c7 ≤ 8 ∧ c0 + (c1 + (c2 + (c3 + (c4 + (c5 + (c6 + c7)))))) = cnt a 64 := by
  have e : ∀ x, cnt x 8 = pc (x % 256) := fun x => by
    have := pc_cnt ⟨x % 256, by omega⟩
    simp only at this
    rw [this]
    exact (cnt_mod x 8 8 (Nat.le_refl _)).symm
  have s : ∀ x n, cnt x (8 + n) = pc (x % 256) + cnt (x / 256) n := fun x n => by rw [cnt_add, e]
  rw [p1_q1, p2_q2, p3_q3]
  iterate 8 rw [q321_step]
  have z : q3 0 (q2 0 (q1 0 (a / 256 / 256 / 256 / 256 / 256 / 256 / 256 / 256))) = 0 := by simp [q3, rep]
  rw [z, Nat.mul_zero, Nat.add_zero]
  refine ⟨_, _, _, _, _, _, _, _, rfl, pc_le _ (Nat.mod_lt _ (by omega)), pc_le _ (Nat.mod_lt _ (by omega)), pc_le _ (Nat.mod_lt _ (by omega)), pc_le _ (Nat.mod_lt _ (by omega)), pc_le _ (Nat.mod_lt _ (by omega)), pc_le _ (Nat.mod_lt _ (by omega)), pc_le _ (Nat.mod_lt _ (by omega)), pc_le _ (Nat.mod_lt _ (by omega)), ?_⟩
  rw [show (64 : Nat) = 8 + (8 + (8 + (8 + (8 + (8 + (8 + (8 + 0))))))) from rfl]
  iterate 8 rw [s]
  simp [cnt]

def p4 (a : Nat) : Nat := a + a / 256
def p5 (a : Nat) : Nat := a + a / 65536
def p6 (a : Nat) : Nat := a + a / 4294967296

theorem p654 (a : Nat) : p6 (p5 (p4 (p3 (p2 (p1 a))))) % 128 = cnt a 64 ∧ p4 (p3 (p2 (p1 a))) < 18446744073709551616 ∧ p5 (p4 (p3 (p2 (p1 a)))) < 18446744073709551616 ∧ p6 (p5 (p4 (p3 (p2 (p1 a))))) < 9223372036854775808 := by
  obtain ⟨c0, c1, c2, c3, c4, c5, c6, c7, h, h0, h1, h2, h3, h4, h5, h6, h7, hs⟩ := p321 a
  rw [h, ← hs]
  clear h hs
  have e4 : p4 (c0 + 256 * (c1 + 256 * (c2 + 256 * (c3 + 256 * (c4 + 256 * (c5 + 256 * (c6 + 256 * c7))))))) = (c0 + c1) + 256 * ((c1 + c2) + 256 * ((c2 + c3) + 256 * ((c3 + c4) + 256 * ((c4 + c5) + 256 * ((c5 + c6) + 256 * ((c6 + c7) + 256 * c7)))))) := by
    unfold p4; omega
  rw [e4]
  have e5 : p5 ((c0 + c1) + 256 * ((c1 + c2) + 256 * ((c2 + c3) + 256 * ((c3 + c4) + 256 * ((c4 + c5) + 256 * ((c5 + c6) + 256 * ((c6 + c7) + 256 * c7))))))) =
      (c0 + c1 + c2 + c3) + 256 * ((c1 + c2 + c3 + c4) + 256 * ((c2 + c3 + c4 + c5) + 256 * ((c3 + c4 + c5 + c6) + 256 * ((c4 + c5 + c6 + c7) + 256 * ((c5 + c6 + c7) + 256 * ((c6 + c7) + 256 * c7)))))) := by
    unfold p5; omega
  rw [e5]
  have e6 : ((c0 + c1 + c2 + c3) + 256 * ((c1 + c2 + c3 + c4) + 256 * ((c2 + c3 + c4 + c5) + 256 * ((c3 + c4 + c5 + c6) + 256 * ((c4 + c5 + c6 + c7) + 256 * ((c5 + c6 + c7) + 256 * ((c6 + c7) + 256 * c7))))))) / 4294967296 =
      (c4 + c5 + c6 + c7) + 256 * ((c5 + c6 + c7) + 256 * ((c6 + c7) + 256 * c7)) := by omega
  refine ⟨?_, by omega, by omega, ?_⟩ <;> unfold p6 <;> rw [e6] <;> omega
theorem p321_lt (a : Nat) : p3 (p2 (p1 a)) < 18446744073709551616 := by
  obtain ⟨c0, c1, c2, c3, c4, c5, c6, c7, h, h0, h1, h2, h3, h4, h5, h6, h7, hs⟩ := p321 a
  rw [h]
  omega

/-! ### what each function of the layer computes -/
def hasB (a : Nat) (i : Int) : Bool := decide (0 ≤ i) && decide (i ≤ 63) && a.testBit i.toNat
def addN (a : Nat) (i : Int) : Nat := if 0 ≤ i ∧ i ≤ 63 then a ||| 2 ^ i.toNat else a
def clampN (n : Int) : Nat := (min (max n 0) 64).toNat
def countN (a : Nat) (n : Int) : Nat := cnt a (clampN n)
def leastN (n : Int) : Nat := clampN n / 2 + 1
def majB (a : Nat) (n : Int) : Bool := decide (1 ≤ n) && decide (leastN n ≤ countN a n)
def listN (a : Nat) (k : Nat) : List Nat := (List.range k).filter (a.testBit ·)

theorem clamp_le (n : Int) : clampN n ≤ 64 := by unfold clampN; omega
theorem count_le (a : Nat) (n : Int) : countN a n ≤ 64 := Nat.le_trans (cnt_le _ _) (clamp_le n)
theorem list_len (a k : Nat) : (listN a k).length = cnt a k := by
  induction k with
  | zero => rfl
  | succ k ih =>
    unfold listN at ih ⊢
    rw [List.range_succ, List.filter_append, List.length_append, ih]
    simp only [cnt]
    cases h : a.testBit k <;> simp [h]
theorem list_succ (a k : Nat) : listN a (k + 1) = listN a k ++ (if a.testBit k = true then [k] else []) := by
  unfold listN
  rw [List.range_succ, List.filter_append]
  congr 1
  cases h : a.testBit k <;> simp [h]
theorem list_lt (a k : Nat) : ∀ x ∈ listN a k, x < k := by
  intro x hx
  unfold listN at hx
  simp at hx
  exact hx.1
theorem add_lt (a : Nat) (i : Int) (h : a < 18446744073709551616) : addN a i < 18446744073709551616 := by
  unfold addN
  split
  · have := Nat.or_lt_two_pow (x := a) (y := 2 ^ i.toNat) (n := 64) (by omega) (Nat.pow_lt_pow_right (by omega) (by omega))
    omega
  · exact h
theorem shr_bit' (a k : Nat) : (a / 2 ^ k) % 2 = (if a.testBit k = true then 1 else 0) := by
  rw [Nat.testBit_eq_decide_div_mod_eq]
  have := Nat.mod_lt (a / 2 ^ k) (show 2 > 0 by omega)
  by_cases h : a / 2 ^ k % 2 = 1
  · simp [h]
  · have : a / 2 ^ k % 2 = 0 := by omega
    simp [this]
theorem or_same (a k : Nat) (h : a.testBit k = true) : a ||| 2 ^ k = a := by
  apply Nat.eq_of_testBit_eq
  intro i
  rw [Nat.testBit_or, Nat.testBit_two_pow]
  by_cases hi : k = i
  · subst hi; simp [h]
  · simp [hi]
theorem or_add (a k : Nat) (h : a.testBit k = false) : a ||| 2 ^ k = a + 2 ^ k := by
  apply Nat.eq_of_testBit_eq
  intro i
  have hd : a / 2 ^ k % 2 = 0 := by
    have := shr_bit' a k
    rw [h] at this
    simpa using this
  have e : a = 2 ^ (k + 1) * (a / 2 ^ (k + 1)) + a % 2 ^ k := by
    have h1 := Nat.div_add_mod a (2 ^ k)
    have h2 := Nat.div_add_mod (a / 2 ^ k) 2
    rw [hd, Nat.div_div_eq_div_mul, ← Nat.pow_succ, Nat.add_zero] at h2
    rw [← h2, ← Nat.mul_assoc, ← Nat.pow_succ] at h1
    exact h1.symm
  have hm : a % 2 ^ k < 2 ^ k := Nat.mod_lt _ (Nat.pow_pos (by omega))
  have e2 : a + 2 ^ k = 2 ^ (k + 1) * (a / 2 ^ (k + 1)) + (2 ^ k + a % 2 ^ k) := by omega
  have hm2 : 2 ^ k + a % 2 ^ k < 2 ^ (k + 1) := by rw [Nat.pow_succ]; omega
  have hm3 : a % 2 ^ k < 2 ^ (k + 1) := by rw [Nat.pow_succ]; omega
  rw [e2, Nat.testBit_two_pow_mul_add _ hm2, Nat.testBit_or, Nat.testBit_two_pow]
  rw (occs := .pos [1]) [e]
  rw [Nat.testBit_two_pow_mul_add _ hm3]
  by_cases hi : i < k + 1
  · rw [if_pos hi, if_pos hi]
    by_cases hk : k = i
    · subst hk
      rw [Nat.testBit_two_pow_add_eq]
      simp [Nat.testBit_lt_two_pow hm]
    · rw [Nat.testBit_two_pow_add_gt (by omega)]
      simp [hk]
  · rw [if_neg hi, if_neg hi]
    have : ¬ k = i := by omega
    simp [this]
theorem one_land (x : Nat) : x &&& 1 = x % 2 := Nat.and_one_is_mod x
theorem shr_bit (a k : Nat) : (a / 2 ^ k) % 2 = (if a.testBit k = true then 1 else 0) := by
  rw [Nat.testBit_eq_decide_div_mod_eq]
  have := Nat.mod_lt (a / 2 ^ k) (show 2 > 0 by omega)
  by_cases h : a / 2 ^ k % 2 = 1
  · simp [h]
  · have : a / 2 ^ k % 2 = 0 := by omega
    simp [this]
end Go.Proofs.YtbahooohkigcnaaDoor.Q
