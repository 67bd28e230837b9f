/- Plain laws on the sum of bytes (a cyclic code of 32 bits): it is linear, a step has an inverse, and a burst of up to four bytes turns it. No program, no condition. -/
namespace Go.Proofs.Ytmlchhfahpcohaa.F

def poly : Nat := 3988292384
/-- one bit's step -/
def step (s : Nat) : Nat := if s % 2 = 1 then (s / 2) ^^^ poly else s / 2
def steps : Nat → Nat → Nat
  | 0, s => s
  | n + 1, s => steps n (step s)
def upd (s : Nat) (b : UInt8) : Nat := steps 8 (s ^^^ b.toNat)
def run (s : Nat) (l : List UInt8) : Nat := l.foldl upd s
def sum (l : List UInt8) : Nat := 4294967295 - run 4294967295 l

theorem steps_add (m n s : Nat) : steps (m + n) s = steps n (steps m s) := by
  induction m generalizing s with
  | zero => simp [steps]
  | succ m ih => rw [Nat.succ_add]; exact ih _
theorem steps_succ (n s : Nat) : steps (n + 1) s = step (steps n s) := steps_add n 1 s

theorem xor_half (s t : Nat) : (s ^^^ t) / 2 = (s / 2) ^^^ (t / 2) := by
  have := Nat.shiftRight_xor_distrib (a := s) (b := t) (i := 1)
  simpa [Nat.shiftRight_eq_div_pow] using this
theorem xor_par (s t : Nat) : (s ^^^ t) % 2 = (s + t) % 2 := by
  have := Nat.xor_mod_two_pow (a := s) (b := t) (n := 1)
  rw [show (2 : Nat) ^ 1 = 2 from rfl] at this
  rw [this]
  have h1 := Nat.mod_two_eq_zero_or_one s
  have h2 := Nat.mod_two_eq_zero_or_one t
  rcases h1 with h1 | h1 <;> rcases h2 with h2 | h2 <;> rw [h1, h2, Nat.add_mod, h1, h2] <;> rfl
theorem xor_zero_eq {a b : Nat} (h : a ^^^ b = 0) : a = b := by
  have : a ^^^ b ^^^ b = b := by rw [h, Nat.zero_xor]
  rwa [Nat.xor_assoc, Nat.xor_self, Nat.xor_zero] at this
theorem step_xor (s t : Nat) : step (s ^^^ t) = step s ^^^ step t := by
  unfold step
  rw [xor_par, xor_half]
  have h1 := Nat.mod_two_eq_zero_or_one s
  have h2 := Nat.mod_two_eq_zero_or_one t
  rcases h1 with h1 | h1 <;> rcases h2 with h2 | h2
  · rw [if_neg (by omega), if_neg (by omega), if_neg (by omega)]
  · rw [if_pos (by omega), if_neg (by omega), if_pos (by omega), Nat.xor_assoc]
  · rw [if_pos (by omega), if_pos (by omega), if_neg (by omega)]
    rw [Nat.xor_assoc, Nat.xor_comm (t / 2) poly, ← Nat.xor_assoc]
  · rw [if_neg (by omega), if_pos (by omega), if_pos (by omega)]
    rw [Nat.xor_assoc (s / 2) poly, Nat.xor_comm (t / 2) poly, ← Nat.xor_assoc poly, Nat.xor_self, Nat.zero_xor]
theorem steps_xor (n s t : Nat) : steps n (s ^^^ t) = steps n s ^^^ steps n t := by
  induction n generalizing s t with
  | zero => rfl
  | succ n ih => show steps n (step _) = steps n (step _) ^^^ steps n (step _); rw [step_xor, ih]

theorem step_lt {s : Nat} (h : s < 4294967296) : step s < 4294967296 := by
  unfold step
  split
  · exact Nat.xor_lt_two_pow (n := 32) (by omega) (by decide)
  · omega
theorem steps_lt (n : Nat) {s : Nat} (h : s < 4294967296) : steps n s < 4294967296 := by
  induction n generalizing s with
  | zero => exact h
  | succ n ih => exact ih (step_lt h)
theorem upd_lt {s : Nat} (b : UInt8) (h : s < 4294967296) : upd s b < 4294967296 := by
  have := b.toNat_lt
  exact steps_lt 8 (Nat.xor_lt_two_pow (n := 32) (by omega) (by omega))
theorem run_lt {s : Nat} (l : List UInt8) (h : s < 4294967296) : run s l < 4294967296 := by
  induction l generalizing s with
  | nil => exact h
  | cons b l ih => exact ih (upd_lt b h)
theorem sum_lt (l : List UInt8) : sum l < 4294967296 := by unfold sum; omega
theorem run_app (s : Nat) (l m : List UInt8) : run s (l ++ m) = run (run s l) m := by simp [run]

theorem step_zero {s : Nat} (h : s < 4294967296) (h0 : step s = 0) : s = 0 := by
  unfold step at h0
  split at h0
  · exfalso
    have e : s / 2 = poly := xor_zero_eq h0
    unfold poly at e
    omega
  · omega
theorem steps_zero (n : Nat) {s : Nat} (h : s < 4294967296) (h0 : steps n s = 0) : s = 0 := by
  induction n generalizing s with
  | zero => exact h0
  | succ n ih => exact step_zero h (ih (step_lt h) h0)

theorem step_double (y : Nat) : step (2 * y) = y := by unfold step; rw [if_neg (by omega)]; omega
theorem steps_double (n y : Nat) : steps n (2 ^ n * y) = y := by
  induction n generalizing y with
  | zero => simp [steps]
  | succ n ih =>
    show steps n (step _) = y
    rw [show 2 ^ (n + 1) * y = 2 * (2 ^ n * y) from by rw [Nat.pow_succ]; rw [Nat.mul_comm (2 ^ n) 2, Nat.mul_assoc], step_double, ih]

/-- the word of a difference -/
def word : List UInt8 → List UInt8 → Nat
  | a :: x, b :: y => (a.toNat ^^^ b.toNat) ^^^ (256 * word x y)
  | _, _ => 0
theorem run_diff (x y : List UInt8) (s t : Nat) (h : x.length = y.length) : run s x ^^^ run t y = steps (8 * x.length) ((s ^^^ t) ^^^ word x y) := by
  induction x generalizing y s t with
  | nil =>
    cases y with
    | nil => simp [run, word, steps]
    | cons b y => simp at h
  | cons a x ih =>
    cases y with
    | nil => simp at h
    | cons b y =>
      show run (upd s a) x ^^^ run (upd t b) y = _
      rw [ih y _ _ (by simpa using h)]
      have e1 : upd s a ^^^ upd t b = steps 8 ((s ^^^ t) ^^^ (a.toNat ^^^ b.toNat)) := by
        unfold upd
        rw [← steps_xor]
        congr 1
        rw [Nat.xor_assoc, ← Nat.xor_assoc a.toNat, Nat.xor_comm a.toNat t, Nat.xor_assoc t, ← Nat.xor_assoc]
      have e2 : word x y = steps 8 (256 * word x y) := (steps_double 8 _).symm
      rw [e1, List.length_cons, show 8 * (x.length + 1) = 8 + 8 * x.length from by omega, steps_add]
      congr 1
      show _ ^^^ word x y = steps 8 (_ ^^^ ((a.toNat ^^^ b.toNat) ^^^ (256 * word x y)))
      rw [← Nat.xor_assoc (s ^^^ t) (a.toNat ^^^ b.toNat) (256 * word x y), steps_xor 8 _ (256 * word x y), ← e2]
theorem word_lt (x y : List UInt8) : word x y < 256 ^ x.length := by
  induction x generalizing y with
  | nil => simp [word]
  | cons a x ih =>
    cases y with
    | nil => simp [word]; exact Nat.pow_pos (by omega)
    | cons b y =>
      have h1 := ih y
      have ha := a.toNat_lt
      have hb := b.toNat_lt
      rw [List.length_cons, show (256 : Nat) = 2 ^ 8 from rfl, ← Nat.pow_mul] at *
      have e : 2 ^ (8 * (x.length + 1)) = 256 * 2 ^ (8 * x.length) := by
        rw [show 8 * (x.length + 1) = 8 + 8 * x.length from by omega, Nat.pow_add]
      refine Nat.xor_lt_two_pow (Nat.lt_of_lt_of_le (Nat.xor_lt_two_pow (n := 8) ha hb) (Nat.pow_le_pow_right (by omega) (by omega))) ?_
      rw [e]
      have := Nat.mul_lt_mul_of_pos_left h1 (show 0 < 256 by omega)
      omega
theorem word_zero (x y : List UInt8) (h : x.length = y.length) (h0 : word x y = 0) : x = y := by
  induction x generalizing y with
  | nil => cases y with
    | nil => rfl
    | cons b y => simp at h
  | cons a x ih =>
    cases y with
    | nil => simp at h
    | cons b y =>
      have e : (a.toNat ^^^ b.toNat) = 256 * word x y := xor_zero_eq h0
      have hc : a.toNat ^^^ b.toNat < 256 := Nat.xor_lt_two_pow (n := 8) a.toNat_lt b.toNat_lt
      have hw : word x y = 0 := by omega
      rw [hw] at e
      have e3 : a.toNat = b.toNat := xor_zero_eq (by simpa using e)
      rw [ih y (by simpa using h) hw, UInt8.toNat_inj.1 e3]
/-- a burst of up to four bytes turns the sum -/
theorem sum_burst (p x y q : List UInt8) (h : x.length = y.length) (h4 : x.length ≤ 4) (hs : sum (p ++ x ++ q) = sum (p ++ y ++ q)) : x = y := by
  have r1 : run 4294967295 (p ++ x ++ q) < 4294967296 := run_lt _ (by omega)
  have r2 : run 4294967295 (p ++ y ++ q) < 4294967296 := run_lt _ (by omega)
  have e : run 4294967295 (p ++ x ++ q) = run 4294967295 (p ++ y ++ q) := by unfold sum at hs; omega
  have e0 : run 4294967295 (p ++ x ++ q) ^^^ run 4294967295 (p ++ y ++ q) = 0 := (by rw [e, Nat.xor_self])
  rw [run_app, run_app _ (p ++ y) q, run_diff q q _ _ rfl] at e0
  have hw : word q q = 0 := by
    clear e0 e r1 r2 hs
    induction q with
    | nil => rfl
    | cons a q ih => simp [word, ih]
  rw [hw, Nat.xor_zero, run_app, run_app _ p y, run_diff x y _ _ h, Nat.xor_self, Nat.zero_xor] at e0
  have hl : word x y < 4294967296 := Nat.lt_of_lt_of_le (word_lt x y) (by
    have := Nat.pow_le_pow_right (n := 256) (by omega) h4
    omega)
  exact word_zero x y h (steps_zero _ hl (steps_zero _ (steps_lt _ hl) e0))
end Go.Proofs.Ytmlchhfahpcohaa.F
