/- Numbers as bytes, the greatest first. No program in sight. -/
import Derived.Laws.BitsAllLaws
import GoSem.Op.String
namespace Go.Proofs.YtjofjpmhokjhnaaDoor.C

/-- the last k bytes of x, the greatest first -/
def be (x : Nat) : Nat → List UInt8
  | 0 => []
  | k + 1 => UInt8.ofNat (x / 256 ^ k) :: be x k

theorem be_len (x k : Nat) : (be x k).length = k := by
  induction k with
  | zero => rfl
  | succ k ih => simp [be, ih]

/-- what bytes come to -/
def val (a : Nat) (l : List UInt8) : Nat := l.foldl (fun a b => a * 256 + b.toNat) a

theorem val_app (a : Nat) (l m : List UInt8) : val a (l ++ m) = val (val a l) m := by simp [val]
theorem val_shift (a : Nat) (l : List UInt8) : val a l = a * 256 ^ l.length + val 0 l := by
  induction l generalizing a with
  | nil => simp [val]
  | cons b l ih =>
    show val (a * 256 + b.toNat) l = a * 256 ^ (l.length + 1) + val (0 * 256 + b.toNat) l
    rw [ih, ih (0 * 256 + b.toNat), Nat.pow_succ]
    simp only [Nat.zero_mul, Nat.zero_add, Nat.add_mul, Nat.mul_assoc]
    rw [Nat.mul_comm (256 ^ l.length) 256]
    omega
theorem val_lt (l : List UInt8) : val 0 l < 256 ^ l.length := by
  induction l with
  | nil => simp [val]
  | cons b l ih =>
    show val (0 * 256 + b.toNat) l < 256 ^ (l.length + 1)
    rw [val_shift]
    have := b.toNat_lt
    have h1 : (b.toNat + 1) * 256 ^ l.length ≤ 256 * 256 ^ l.length := Nat.mul_le_mul_right _ (by omega)
    rw [Nat.pow_succ, Nat.mul_comm (256 ^ l.length) 256]
    simp only [Nat.zero_mul, Nat.zero_add]
    rw [Nat.add_mul] at h1
    omega
theorem val_be (x k : Nat) : val 0 (be x k) = x % 256 ^ k := by
  induction k with
  | zero => simp [val, be, Nat.mod_one]
  | succ k ih =>
    show val (0 * 256 + (UInt8.ofNat (x / 256 ^ k)).toNat) (be x k) = _
    rw [val_shift, ih, be_len, UInt8.toNat_ofNat']
    simp only [Nat.zero_mul, Nat.zero_add]
    rw [show (2 : Nat) ^ 8 = 256 from rfl, Nat.pow_succ, Nat.mod_mul, Nat.mul_comm (x / 256 ^ k % 256), Nat.add_comm]
theorem be_inj (x y k : Nat) (h : be x k = be y k) : x % 256 ^ k = y % 256 ^ k := by rw [← val_be, ← val_be, h]
theorem be_mod (x k : Nat) : be (x % 256 ^ k) k = be x k := by
  have : ∀ j, j ≤ k → be (x % 256 ^ k) j = be x j := by
    intro j hj
    induction j with
    | zero => rfl
    | succ j ih =>
      simp only [be]
      rw [ih (by omega)]
      congr 1
      have h : (x % 256 ^ k) / 256 ^ j = (x / 256 ^ j) % 256 ^ (k - j) := by
        rw [show 256 ^ k = 256 ^ j * 256 ^ (k - j) from by rw [← Nat.pow_add]; congr 1; omega]
        rw [Nat.mod_mul_right_div_self]
      rw [h]
      apply UInt8.toNat_inj.1
      rw [UInt8.toNat_ofNat', UInt8.toNat_ofNat', show (2 : Nat) ^ 8 = 256 from rfl, show k - j = (k - j - 1) + 1 from by omega, Nat.pow_succ]
      exact Nat.mod_mul_left_mod _ _ _
  exact this k (Nat.le_refl _)

theorem less_be (x y k : Nat) : Op.bytesLess (be x k) (be y k) = decide (x % 256 ^ k < y % 256 ^ k) := by
  induction k with
  | zero => simp [be, Op.bytesLess, Nat.mod_one]
  | succ k ih =>
    simp only [be, Op.bytesLess]
    rw [ih]
    have h : ∀ z : Nat, z % 256 ^ (k + 1) = z % 256 ^ k + 256 ^ k * (z / 256 ^ k % 256) := fun z => by rw [Nat.pow_succ, Nat.mod_mul]
    rw [h x, h y]
    have hp : 0 < 256 ^ k := Nat.pow_pos (by omega)
    have hx := Nat.mod_lt x hp
    have hy := Nat.mod_lt y hp
    have e1 : (UInt8.ofNat (x / 256 ^ k)).toNat = x / 256 ^ k % 256 := UInt8.toNat_ofNat'
    have e2 : (UInt8.ofNat (y / 256 ^ k)).toNat = y / 256 ^ k % 256 := UInt8.toNat_ofNat'
    have hlt : (decide (UInt8.ofNat (x / 256 ^ k) < UInt8.ofNat (y / 256 ^ k))) = decide (x / 256 ^ k % 256 < y / 256 ^ k % 256) := by
      rw [← e1, ← e2]; rfl
    have heq : (UInt8.ofNat (x / 256 ^ k) == UInt8.ofNat (y / 256 ^ k)) = decide (x / 256 ^ k % 256 = y / 256 ^ k % 256) := by
      rw [← e1, ← e2, Bool.eq_iff_iff]
      simp only [beq_iff_eq, decide_eq_true_eq]
      exact UInt8.toNat_inj.symm
    rw [hlt, heq]
    generalize x / 256 ^ k % 256 = u
    generalize y / 256 ^ k % 256 = v
    generalize x % 256 ^ k = r at *
    generalize y % 256 ^ k = s at *
    generalize 256 ^ k = p at *
    rw [Bool.eq_iff_iff]
    simp only [Bool.or_eq_true, Bool.and_eq_true, decide_eq_true_eq]
    constructor
    · rintro (h1 | ⟨h1, h2⟩)
      · have : p * (u + 1) ≤ p * v := Nat.mul_le_mul_left _ h1
        rw [Nat.mul_add] at this
        omega
      · rw [h1]; omega
    · intro h1
      rcases Nat.lt_trichotomy u v with h2 | h2 | h2
      · exact Or.inl h2
      · rw [h2] at h1; exact Or.inr ⟨h2, by omega⟩
      · exfalso
        have : p * (v + 1) ≤ p * u := Nat.mul_le_mul_left _ h2
        rw [Nat.mul_add] at this
        omega
theorem eq_be (x y k : Nat) : (be x k == be y k) = decide (x % 256 ^ k = y % 256 ^ k) := by
  rw [Bool.eq_iff_iff]
  simp only [beq_iff_eq, decide_eq_true_eq]
  constructor
  · exact be_inj x y k
  · intro h; rw [← be_mod x, h, be_mod]

def clamp8 (n : Int) : Nat := (min (max n 0) 8).toNat
theorem clamp8_le (n : Int) : clamp8 n ≤ 8 := by unfold clamp8; omega
/-- what Put makes -/
def put (l : List UInt8) (x : Nat) (n : Int) : List UInt8 := l ++ be x (clamp8 n)
/-- what PutText makes -/
def putText (l : List UInt8) (s : List UInt8) : List UInt8 := l ++ be (min s.length 65535) 2 ++ s.take (min s.length 65535)

end Go.Proofs.YtjofjpmhokjhnaaDoor.C
