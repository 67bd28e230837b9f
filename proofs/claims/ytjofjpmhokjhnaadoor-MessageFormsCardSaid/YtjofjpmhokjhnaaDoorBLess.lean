/- The order of bytes, in plain words: irreflexive, one way, total, transitive. No condition. -/
import Derived.Test.YtjofjpmhokjhnaaDoorBase
namespace Go.Proofs.YtjofjpmhokjhnaaDoor
set_option maxRecDepth 20000
namespace V
theorem bl_nil (x : List UInt8) : Op.bytesLess x [] = false := by unfold Op.bytesLess; rfl
theorem bl_cons (a b : UInt8) (x y : List UInt8) : Op.bytesLess (a :: x) (b :: y) = true ↔ a.toNat < b.toNat ∨ (a = b ∧ Op.bytesLess x y = true) := by
  rw [Op.bytesLess]
  simp [UInt8.lt_iff_toNat_lt]
theorem bl_irr : ∀ x : List UInt8, Op.bytesLess x x = false
  | [] => rfl
  | a :: x => by
    have ih := bl_irr x
    rw [← Bool.not_eq_true, bl_cons]
    rintro (h | ⟨_, h⟩)
    · omega
    · rw [ih] at h; exact Bool.noConfusion h
theorem bl_asym : ∀ x y : List UInt8, Op.bytesLess x y = true → Op.bytesLess y x = false
  | _, [], h => by rw [bl_nil] at h; exact Bool.noConfusion h
  | [], _ :: _, _ => bl_nil _
  | a :: x, b :: y, h => by
    rw [bl_cons] at h
    rw [← Bool.not_eq_true, bl_cons]
    rintro (g | ⟨g, g'⟩)
    · rcases h with h | ⟨h, _⟩
      · omega
      · subst h; omega
    · subst g
      rcases h with h | ⟨_, h⟩
      · omega
      · rw [bl_asym x y h] at g'; exact Bool.noConfusion g'
theorem bl_total : ∀ x y : List UInt8, Op.bytesLess x y = false → Op.bytesLess y x = false → x = y
  | [], [], _, _ => rfl
  | [], b :: y, h, _ => by exact Bool.noConfusion h
  | a :: x, [], _, h => by exact Bool.noConfusion h
  | a :: x, b :: y, h, g => by
    rw [← Bool.not_eq_true, bl_cons] at h g
    have hab : a.toNat = b.toNat := by
      have h1 : ¬ a.toNat < b.toNat := fun e => h (Or.inl e)
      have h2 : ¬ b.toNat < a.toNat := fun e => g (Or.inl e)
      omega
    have hab := UInt8.toNat_inj.1 hab
    subst hab
    have h1 : Op.bytesLess x y = false := by rw [← Bool.not_eq_true]; exact fun e => h (Or.inr ⟨rfl, e⟩)
    have h2 : Op.bytesLess y x = false := by rw [← Bool.not_eq_true]; exact fun e => g (Or.inr ⟨rfl, e⟩)
    rw [bl_total x y h1 h2]
theorem bl_trans : ∀ x y z : List UInt8, Op.bytesLess x y = true → Op.bytesLess y z = true → Op.bytesLess x z = true
  | _, [], _, h, _ => by rw [bl_nil] at h; exact Bool.noConfusion h
  | _, _ :: _, [], _, h => by rw [bl_nil] at h; exact Bool.noConfusion h
  | [], _ :: _, _ :: _, _, _ => rfl
  | a :: x, b :: y, c :: z, h, g => by
    rw [bl_cons] at h g ⊢
    rcases h with h | ⟨rfl, h⟩
    · rcases g with g | ⟨rfl, g⟩
      · exact Or.inl (by omega)
      · exact Or.inl h
    · rcases g with g | ⟨rfl, g⟩
      · exact Or.inl g
      · exact Or.inr ⟨rfl, bl_trans x y z h g⟩
end V
end Go.Proofs.YtjofjpmhokjhnaaDoor
