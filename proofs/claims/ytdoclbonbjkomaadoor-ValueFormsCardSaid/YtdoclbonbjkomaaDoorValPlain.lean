/- The plain law of the order of values. No condition. -/
import Derived.Test.YtdoclbonbjkomaaDoorComp
namespace Go.Proofs.YtdoclbonbjkomaaDoor
open Go.RowKit
namespace V
theorem bl_nil (x : List UInt8) : Op.bytesLess x [] = false := by unfold Op.bytesLess; rfl
theorem bl_cons (a b : UInt8) (x y : List UInt8) : Op.bytesLess (a :: x) (b :: y) = true ↔ a.toNat < b.toNat ∨ (a = b ∧ Op.bytesLess x y = true) := by
  rw [Op.bytesLess]
  simp [UInt8.lt_iff_toNat_lt]
theorem bl_irr : ∀ x : List UInt8, Op.bytesLess x x = false
  | [] => rfl
  | a :: x => by
    have ih := bl_irr x
    rw [← Bool.not_eq_true, bl_cons]
    rintro (h | ⟨_, h⟩)
    · omega
    · rw [ih] at h; exact Bool.noConfusion h
theorem bl_asym : ∀ x y : List UInt8, Op.bytesLess x y = true → Op.bytesLess y x = false
  | _, [], h => by rw [bl_nil] at h; exact Bool.noConfusion h
  | [], _ :: _, _ => bl_nil _
  | a :: x, b :: y, h => by
    rw [bl_cons] at h
    rw [← Bool.not_eq_true, bl_cons]
    rintro (g | ⟨g, g'⟩)
    · rcases h with h | ⟨h, _⟩
      · omega
      · subst h; omega
    · subst g
      rcases h with h | ⟨_, h⟩
      · omega
      · rw [bl_asym x y h] at g'; exact Bool.noConfusion g'
theorem bl_total : ∀ x y : List UInt8, Op.bytesLess x y = false → Op.bytesLess y x = false → x = y
  | [], [], _, _ => rfl
  | [], b :: y, h, _ => by exact Bool.noConfusion h
  | a :: x, [], _, h => by exact Bool.noConfusion h
  | a :: x, b :: y, h, g => by
    rw [← Bool.not_eq_true, bl_cons] at h g
    have hab : a.toNat = b.toNat := by
      have h1 : ¬ a.toNat < b.toNat := fun e => h (Or.inl e)
      have h2 : ¬ b.toNat < a.toNat := fun e => g (Or.inl e)
      omega
    have hab := UInt8.toNat_inj.1 hab
    subst hab
    have h1 : Op.bytesLess x y = false := by rw [← Bool.not_eq_true]; exact fun e => h (Or.inr ⟨rfl, e⟩)
    have h2 : Op.bytesLess y x = false := by rw [← Bool.not_eq_true]; exact fun e => g (Or.inr ⟨rfl, e⟩)
    rw [bl_total x y h1 h2]
theorem bl_trans : ∀ x y z : List UInt8, Op.bytesLess x y = true → Op.bytesLess y z = true → Op.bytesLess x z = true
  | _, [], _, h, _ => by rw [bl_nil] at h; exact Bool.noConfusion h
  | _, _ :: _, [], _, h => by rw [bl_nil] at h; exact Bool.noConfusion h
  | [], _ :: _, _ :: _, _, _ => rfl
  | a :: x, b :: y, c :: z, h, g => by
    rw [bl_cons] at h g ⊢
    rcases h with h | ⟨rfl, h⟩
    · rcases g with g | ⟨rfl, g⟩
      · exact Or.inl (by omega)
      · exact Or.inl h
    · rcases g with g | ⟨rfl, g⟩
      · exact Or.inl g
      · exact Or.inr ⟨rfl, bl_trans x y z h g⟩
/-- the bytes' order as a number: with each sign -/
theorem cmps_lt (x y : List UInt8) : cmps x y < 0 ↔ Op.bytesLess x y = true := by
  unfold cmps
  cases h : Op.bytesLess x y
  · rw [cond_false]; cases !(x == y) <;> simp
  · simp
theorem cmps_zero (x y : List UInt8) : cmps x y = 0 ↔ x = y := by
  unfold cmps
  cases h : Op.bytesLess x y
  · rw [cond_false]
    by_cases e : x = y
    · simp [e]
    · rw [show (x == y) = false by simpa using e]
      simp [e]
  · rw [cond_true]
    constructor
    · intro e; omega
    · intro e; subst e; rw [bl_irr] at h; exact Bool.noConfusion h
theorem cmps_vals (x y : List UInt8) : cmps x y = -1 ∨ cmps x y = 0 ∨ cmps x y = 1 := by
  unfold cmps
  cases Op.bytesLess x y <;> cases !(x == y) <;> simp
theorem cmps_neg (x y : List UInt8) : cmps x y = - cmps y x := by
  have a := cmps_lt x y
  have b := cmps_lt y x
  have c := cmps_zero x y
  have d := cmps_zero y x
  have e := cmps_vals x y
  have f := cmps_vals y x
  by_cases h : x = y
  · rw [c.2 h, d.2 h.symm]; rfl
  · have h' : ¬ y = x := fun e => h e.symm
    rw [← c] at h
    rw [← d] at h'
    cases hx : Op.bytesLess x y with
    | true =>
      have := a.2 hx
      have hy := bl_asym _ _ hx
      have : ¬ cmps y x < 0 := by rw [b, hy]; simp
      omega
    | false =>
      have : ¬ cmps x y < 0 := by rw [a, hx]; simp
      cases hy : Op.bytesLess y x with
      | true => have := b.2 hy; omega
      | false => exact absurd (c.2 (bl_total _ _ hx hy)) h
theorem cmps_trans (x y z : List UInt8) (h : cmps x y ≤ 0) (g : cmps y z ≤ 0) : cmps x z ≤ 0 ∧ (cmps x z = 0 → cmps x y = 0 ∧ cmps y z = 0) := by
  have a := cmps_lt x y
  have b := cmps_lt y z
  have c := cmps_lt x z
  by_cases h1 : cmps x y = 0
  · rw [cmps_zero] at h1; subst h1; exact ⟨g, fun e => ⟨(cmps_zero _ _).2 rfl, e⟩⟩
  · by_cases h2 : cmps y z = 0
    · rw [cmps_zero] at h2; subst h2; exact ⟨h, fun e => ⟨e, (cmps_zero _ _).2 rfl⟩⟩
    · have := c.2 (bl_trans x y z (a.1 (by omega)) (b.1 (by omega)))
      exact ⟨by omega, fun e => by omega⟩
theorem cmp_vals (x y : Int) : (cmp x y = -1 ∧ x < y) ∨ (cmp x y = 0 ∧ x = y) ∨ (cmp x y = 1 ∧ y < x) := by
  unfold cmp
  by_cases h : x < y
  · simp [h]
  · by_cases g : y < x
    · simp [h, g]
    · rw [if_neg h, if_neg g]
      exact Or.inr (Or.inl ⟨rfl, by omega⟩)
theorem or3_neg (a b c a' b' c' : Int) (ha : a = -a') (hb : b = -b') (hc : c = -c') : or3 a b c = - or3 a' b' c' := by
  unfold or3
  subst ha hb hc
  by_cases h : a' = 0
  · rw [if_pos (by omega), if_pos h]
    by_cases g : b' = 0
    · rw [if_pos (by omega), if_pos g]
    · rw [if_neg (by omega), if_neg g]
  · rw [if_neg (by omega), if_neg h]
theorem or3_zero (a b c : Int) : or3 a b c = 0 ↔ a = 0 ∧ b = 0 ∧ c = 0 := by
  unfold or3
  split
  · split <;> omega
  · omega
theorem or3_le (a b c : Int) : or3 a b c ≤ 0 ↔ a < 0 ∨ (a = 0 ∧ (b < 0 ∨ (b = 0 ∧ c ≤ 0))) := by
  unfold or3
  split
  · split <;> omega
  · omega
/-- a NaN's key is 0, and none but a NaN's -/
theorem nan_all : nan 18446744073709551615 = true := by decide +kernel
theorem nkey_inj (a b : Nat) (ha : a < 18446744073709551616) (hb : b < 18446744073709551616) (ca : ncanon a = a) (cb : ncanon b = b) (h : nkey a = nkey b) : a = b := by
  have fa : ¬ nan a = true → a ≠ 18446744073709551615 := fun h e => h (e ▸ nan_all)
  have fb : ¬ nan b = true → b ≠ 18446744073709551615 := fun h e => h (e ▸ nan_all)
  unfold ncanon at ca cb
  unfold nkey at h
  cases na : nan a <;> cases nb : nan b <;> rw [na] at ca h fa <;> rw [nb] at cb h fb <;> simp only [cond_true, cond_false] at *
  · have := fa (by simp); have := fb (by simp)
    split at h <;> split at h <;> omega
  · have := fa (by simp)
    split at h <;> omega
  · have := fb (by simp)
    split at h <;> omega
  · omega
theorem vcmp_eq {k k' : Int} {b b' : Nat} {t t' : List UInt8} (h : formed k b t = true) (h' : formed k' b' t' = true) :
    vcmp k b t k' b' t' = or3 (cmp k k') (cmp (nkey b) (nkey b')) (cmps t t') := by unfold vcmp; rw [if_pos ⟨h, h'⟩]
theorem cmp_neg (x y : Int) : cmp x y = - cmp y x := by
  have := cmp_vals x y
  have := cmp_vals y x
  omega
theorem vcmp_neg {k k' : Int} {b b' : Nat} {t t' : List UInt8} (h : formed k b t = true) (h' : formed k' b' t' = true) :
    vcmp k b t k' b' t' = - vcmp k' b' t' k b t := by
  rw [vcmp_eq h h', vcmp_eq h' h]
  exact or3_neg _ _ _ _ _ _ (cmp_neg _ _) (cmp_neg _ _) (cmps_neg _ _)
/-- formed bits are canonical, or 0 -/
theorem formed_bits {k : Int} {b : Nat} {t : List UInt8} (h : formed k b t = true) : ncanon b = b := by
  have z : ncanon 0 = 0 := by decide +kernel
  unfold formed at h
  split at h
  · have := (of_decide_eq_true h).1; rw [this, z]
  · split at h
    · exact (of_decide_eq_true h).2
    · split at h
      · rw [Bool.and_eq_true] at h
        have := (of_decide_eq_true h.1).1; rw [this, z]
      · exact Bool.noConfusion h
theorem vcmp_zero {k k' : Int} {b b' : Nat} {t t' : List UInt8} (h : formed k b t = true) (h' : formed k' b' t' = true) (hb : b < 18446744073709551616) (hb' : b' < 18446744073709551616) :
    vcmp k b t k' b' t' = 0 ↔ k = k' ∧ b = b' ∧ t = t' := by
  rw [vcmp_eq h h', or3_zero, cmps_zero]
  have h1 := cmp_vals k k'
  have h2 := cmp_vals (nkey b) (nkey b')
  constructor
  · rintro ⟨e1, e2, e3⟩
    exact ⟨by omega, nkey_inj b b' hb hb' (formed_bits h) (formed_bits h') (by omega), e3⟩
  · rintro ⟨e1, e2, e3⟩
    subst e2
    exact ⟨by omega, by omega, e3⟩
theorem vcmp_trans {k k' k'' : Int} {b b' b'' : Nat} {t t' t'' : List UInt8} (h : formed k b t = true) (h' : formed k' b' t' = true) (h'' : formed k'' b'' t'' = true)
    (g : vcmp k b t k' b' t' ≤ 0) (g' : vcmp k' b' t' k'' b'' t'' ≤ 0) : vcmp k b t k'' b'' t'' ≤ 0 := by
  rw [vcmp_eq h h', or3_le] at g
  rw [vcmp_eq h' h'', or3_le] at g'
  rw [vcmp_eq h h'', or3_le]
  have h1 := cmp_vals k k'
  have h2 := cmp_vals k' k''
  have h3 := cmp_vals k k''
  have i1 := cmp_vals (nkey b) (nkey b')
  have i2 := cmp_vals (nkey b') (nkey b'')
  have i3 := cmp_vals (nkey b) (nkey b'')
  have j := cmps_trans t t' t''
  generalize nkey b = nb at *
  generalize nkey b' = nb' at *
  generalize nkey b'' = nb'' at *
  generalize cmps t t' = c1 at *
  generalize cmps t' t'' = c2 at *
  generalize cmps t t'' = c3 at *
  generalize cmp k k' = x1 at *
  generalize cmp k' k'' = x2 at *
  generalize cmp k k'' = x3 at *
  generalize cmp nb nb' = y1 at *
  generalize cmp nb' nb'' = y2 at *
  generalize cmp nb nb'' = y3 at *
  rcases g with g | ⟨g0, g | ⟨g1, g⟩⟩ <;> rcases g' with g' | ⟨g0', g' | ⟨g1', g'⟩⟩ <;> first | (left; omega) | (right; refine ⟨by omega, ?_⟩; first | (left; omega) | (right; exact ⟨by omega, (j g g').1⟩))
end V
end Go.Proofs.YtdoclbonbjkomaaDoor
