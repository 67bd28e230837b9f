/- Plain laws on frames whose body was turned at up to four bytes side by side. No program, no condition. -/
import Derived.Test.YtmlchhfahpcohaaFrameList
namespace Go.Proofs.Ytmlchhfahpcohaa.F

/-- lists of one length that are alike outside of four places, and have one sum, are the same -/
theorem turned_same (l m : List UInt8) (k : Nat) (h : m.length = l.length) (ha : ∀ i, i < k ∨ k + 4 ≤ i → m[i]? = l[i]?) (hs : sum m = sum l) : m = l := by
  have d : ∀ l : List UInt8, l = l.take k ++ (l.drop k).take 4 ++ l.drop (k + 4) := fun l => by
    rw [List.append_assoc, ← List.drop_drop, List.take_append_drop, List.take_append_drop]
  have e1 : m.take k = l.take k := by
    apply List.ext_getElem?
    intro i
    rw [List.getElem?_take, List.getElem?_take]
    split
    · rename_i hi; exact ha i (.inl hi)
    · rfl
  have e2 : m.drop (k + 4) = l.drop (k + 4) := by
    apply List.ext_getElem?
    intro i
    rw [List.getElem?_drop, List.getElem?_drop]
    exact ha _ (.inr (by omega))
  have hs2 : sum (l.take k ++ (m.drop k).take 4 ++ l.drop (k + 4)) = sum (l.take k ++ (l.drop k).take 4 ++ l.drop (k + 4)) := by
    rw [← d l, ← e1, ← e2, ← d m]; exact hs
  have e3 := sum_burst _ _ _ _ (by simp [h]) (by simp; omega) hs2
  rw [d m, e1, e2, e3, ← d l]

/-- a frame whose body was turned -/
theorem unwrap_turned (l m : List UInt8) (k : Nat) (hl : l.length ≤ 60000) (h : m.length = l.length) (ha : ∀ i, i < k ∨ k + 4 ≤ i → m[i]? = l[i]?) :
    unwrap (C.be l.length 4 ++ C.be (sum l) 4 ++ m) = if m = l then (l, 8 + l.length, 0) else ([], 0, 5) := by
  by_cases hm : m = l
  · subst hm
    rw [if_pos rfl]
    have := unwrap_wrap m [] hl
    unfold wrap at this
    rw [if_neg (by omega), List.append_nil] at this
    exact this
  · rw [if_neg hm]
    have e1 : (C.be l.length 4 ++ C.be (sum l) 4 ++ m).take 4 = C.be l.length 4 := by
      rw [List.append_assoc]
      exact List.take_left' (C.be_len _ _)
    have e2 : (C.be l.length 4 ++ C.be (sum l) 4 ++ m).drop 4 = C.be (sum l) 4 ++ m := by
      rw [List.append_assoc]
      exact List.drop_left' (C.be_len _ _)
    have e3 : (C.be l.length 4 ++ C.be (sum l) 4 ++ m).drop 8 = m := List.drop_left' (by simp [C.be_len])
    have v1 : C.val 0 (C.be l.length 4) = l.length := by rw [C.val_be]; exact Nat.mod_eq_of_lt (by omega)
    have v2 : C.val 0 (C.be (sum l) 4) = sum l := by rw [C.val_be]; exact Nat.mod_eq_of_lt (sum_lt l)
    have hlen : (C.be l.length 4 ++ C.be (sum l) 4 ++ m).length = 8 + l.length := by simp [C.be_len, h]; omega
    unfold unwrap
    rw [e1, e2, e3, v1, hlen, List.take_left' (C.be_len _ _), v2, List.take_of_length_le (by omega)]
    rw [if_neg (by omega), if_neg (by omega), if_neg (by omega), if_neg (fun hs => hm (turned_same l m k h ha hs))]

/-- one byte is turned -/
theorem turn_step (l m : List UInt8) (k j : Nat) (b : UInt8) (t : Bool) (h : m.length = l.length) (hj : k + j < l.length) (h4 : j < 4) (ha : ∀ i, i < k ∨ k + j ≤ i → m[i]? = l[i]?) (ht : t = !decide (m = l)) :
    (m.set (k + j) (m[k + j] ^^^ b)).length = l.length ∧ (∀ i, i < k ∨ k + (j + 1) ≤ i → (m.set (k + j) (m[k + j] ^^^ b))[i]? = l[i]?) ∧ (t || b != 0) = !decide (m.set (k + j) (m[k + j] ^^^ b) = l) := by
  have hmk : m[k + j] = l[k + j] := by
    have := ha (k + j) (.inr (Nat.le_refl _))
    rw [List.getElem?_eq_getElem (by omega), List.getElem?_eq_getElem hj] at this
    injection this
  refine ⟨by simp [h], fun i hi => ?_, ?_⟩
  · rw [List.getElem?_set_ne (by omega)]
    exact ha i (by omega)
  · have hiff : (m.set (k + j) (m[k + j] ^^^ b) = l) ↔ (m = l ∧ b = 0) := by
      constructor
      · intro e
        have h1 : m = l := by
          apply List.ext_getElem?
          intro i
          by_cases hi : i = k + j
          · subst hi; exact ha _ (.inr (Nat.le_refl _))
          · have := congrArg (·[i]?) e
            simp only [List.getElem?_set_ne (Ne.symm hi)] at this
            exact this
        refine ⟨h1, ?_⟩
        have := congrArg (·[k + j]?) e
        simp only [List.getElem?_set_self (show k + j < m.length by omega), List.getElem?_eq_getElem hj] at this
        injection this with this
        rw [hmk] at this
        have h2 : l[k + j] ^^^ (l[k + j] ^^^ b) = l[k + j] ^^^ l[k + j] := by rw [this]
        rw [← UInt8.xor_assoc, UInt8.xor_self, UInt8.zero_xor] at h2
        exact h2
      · rintro ⟨h1, rfl⟩
        rw [UInt8.xor_zero, List.set_getElem_self]
        exact h1
    have e : decide (m.set (k + j) (m[k + j] ^^^ b) = l) = decide (m = l ∧ b = 0) := by rw [decide_eq_decide]; exact hiff
    rw [ht, e]
    by_cases h1 : m = l <;> by_cases h2 : b = 0 <;> simp [h1, h2]
end Go.Proofs.Ytmlchhfahpcohaa.F
