/- Plain laws on frames: what is made, what is read, lists of frames. No program, no condition. -/
import Derived.Test.YtmlchhfahpcohaaCodePlain
import Derived.Test.YtmlchhfahpcohaaFramePlain
namespace Go.Proofs.Ytmlchhfahpcohaa.F

def wrap (b : List UInt8) : List UInt8 × Nat := if 60000 < b.length then ([], 3) else (C.be b.length 4 ++ C.be (sum b) 4 ++ b, 0)
/-- the body, how many bytes, the error -/
def unwrap (b : List UInt8) : List UInt8 × Nat × Nat :=
  if b.length < 8 then ([], 0, 4)
  else if 60000 < C.val 0 (b.take 4) then ([], 0, 3)
  else if b.length - 8 < C.val 0 (b.take 4) then ([], 0, 4)
  else if sum ((b.drop 8).take (C.val 0 (b.take 4))) = C.val 0 ((b.drop 4).take 4) then ((b.drop 8).take (C.val 0 (b.take 4)), 8 + C.val 0 (b.take 4), 0)
  else ([], 0, 5)

/-- the frames one behind the other: the bodies, and where they end -/
def allF : Nat → List UInt8 → List (List UInt8) × Nat
  | 0, _ => ([], 0)
  | k + 1, b => if (unwrap b).2.2 = 0 then ((unwrap b).1 :: (allF k (b.drop (unwrap b).2.1)).1, (unwrap b).2.1 + (allF k (b.drop (unwrap b).2.1)).2) else ([], 0)
def all (b : List UInt8) : List (List UInt8) × Nat := allF b.length b

theorem unwrap_ok {b : List UInt8} (h : (unwrap b).2.2 = 0) : ∃ n, 8 + n ≤ b.length ∧ n ≤ 60000 ∧ unwrap b = ((b.drop 8).take n, 8 + n, 0) ∧ C.val 0 (b.take 4) = n ∧ sum ((b.drop 8).take n) = C.val 0 ((b.drop 4).take 4) := by
  unfold unwrap at h ⊢
  split at h
  · simp at h
  split at h
  · simp at h
  split at h
  · simp at h
  split at h
  · rename_i h1 h2 h3 h4
    exact ⟨_, by omega, by omega, by rw [if_neg h1, if_neg h2, if_neg h3, if_pos h4], rfl, h4⟩
  · simp at h
theorem unwrap_err {b : List UInt8} (h : (unwrap b).2.2 ≠ 0) : (unwrap b).1 = [] ∧ (unwrap b).2.1 = 0 := by
  unfold unwrap at h ⊢
  split
  · simp
  split
  · simp
  split
  · simp
  split
  · rename_i h1 h2 h3 h4
    rw [if_neg h1, if_neg h2, if_neg h3, if_pos h4] at h
    simp at h
  · simp
theorem unwrap_nil : unwrap [] = ([], 0, 4) := rfl
theorem unwrap_le (b : List UInt8) : (unwrap b).2.1 ≤ b.length := by
  by_cases h : (unwrap b).2.2 = 0
  · obtain ⟨n, h1, _, h2, _⟩ := unwrap_ok h
    rw [h2]; exact h1
  · rw [(unwrap_err h).2]; exact Nat.zero_le _
theorem unwrap_len (b : List UInt8) : (unwrap b).1.length ≤ b.length := by
  by_cases h : (unwrap b).2.2 = 0
  · obtain ⟨n, h1, _, h2, _⟩ := unwrap_ok h
    rw [h2]; simp; omega
  · rw [(unwrap_err h).1]; exact Nat.zero_le _

theorem allF_more (k m : Nat) (b : List UInt8) (hk : b.length ≤ k) (hm : k ≤ m) : allF m b = allF k b := by
  induction k generalizing b m with
  | zero =>
    have : b = [] := List.eq_nil_of_length_eq_zero (by omega)
    subst this
    cases m with
    | zero => rfl
    | succ m => simp [allF, unwrap_nil]
  | succ k ih =>
    cases m with
    | zero => omega
    | succ m =>
      simp only [allF]
      by_cases h : (unwrap b).2.2 = 0
      · rw [if_pos h, if_pos h]
        obtain ⟨n, h1, _, h2, _⟩ := unwrap_ok h
        have e : allF m (b.drop (unwrap b).2.1) = allF k (b.drop (unwrap b).2.1) := ih m _ (by rw [h2]; simp; omega) (by omega)
        rw [e]
      · rw [if_neg h, if_neg h]
/-- one frame ahead -/
theorem all_ok {b : List UInt8} (h : (unwrap b).2.2 = 0) : all b = ((unwrap b).1 :: (all (b.drop (unwrap b).2.1)).1, (unwrap b).2.1 + (all (b.drop (unwrap b).2.1)).2) := by
  obtain ⟨n, h1, _, h2, _⟩ := unwrap_ok h
  unfold all
  cases hb : b.length with
  | zero => omega
  | succ k =>
    simp only [allF]
    rw [if_pos h]
    have e := allF_more (b.drop (unwrap b).2.1).length k (b.drop (unwrap b).2.1) (Nat.le_refl _) (by rw [h2]; simp; omega)
    rw [e]
theorem all_err {b : List UInt8} (h : (unwrap b).2.2 ≠ 0) : all b = ([], 0) := by
  unfold all
  cases hb : b.length with
  | zero => rfl
  | succ k => simp only [allF]; rw [if_neg h]
theorem all_nil : all [] = ([], 0) := rfl
theorem all_le (b : List UInt8) : (all b).2 ≤ b.length := by
  generalize hk : b.length = k
  induction k using Nat.strongRecOn generalizing b with
  | ind k ih =>
    by_cases h : (unwrap b).2.2 = 0
    · rw [all_ok h]
      obtain ⟨n, h1, _, h2, _⟩ := unwrap_ok h
      have := ih (b.drop (unwrap b).2.1).length (by rw [h2]; simp; omega) _ rfl
      rw [h2] at this ⊢
      simp at this ⊢
      omega
    · rw [all_err h]; exact Nat.zero_le _
/-- as many bodies as there are eight bytes, and no more -/
theorem all_count (b : List UInt8) : 8 * (all b).1.length ≤ (all b).2 := by
  generalize hk : b.length = k
  induction k using Nat.strongRecOn generalizing b with
  | ind k ih =>
    by_cases h : (unwrap b).2.2 = 0
    · rw [all_ok h]
      obtain ⟨n, h1, _, h2, _⟩ := unwrap_ok h
      have := ih (b.drop (unwrap b).2.1).length (by rw [h2]; simp; omega) _ rfl
      rw [h2] at this ⊢
      simp at this ⊢
      omega
    · rw [all_err h]; exact Nat.zero_le _

/-! ### what a frame is read as -/
theorem wrap_len {b : List UInt8} (h : b.length ≤ 60000) : (wrap b).1.length = 8 + b.length := by
  unfold wrap
  rw [if_neg (by omega)]
  simp [C.be_len]; omega
theorem unwrap_wrap (b c : List UInt8) (h : b.length ≤ 60000) : unwrap ((wrap b).1 ++ c) = (b, 8 + b.length, 0) := by
  unfold wrap
  rw [if_neg (by omega)]
  have e1 : (C.be b.length 4 ++ C.be (sum b) 4 ++ b ++ c).take 4 = C.be b.length 4 := by
    rw [List.append_assoc, List.append_assoc]
    rw [show (4 : Nat) = (C.be b.length 4).length from (C.be_len _ _).symm]
    rw [C.be_len]
    exact List.take_left' (C.be_len _ _)
  have e2 : (C.be b.length 4 ++ C.be (sum b) 4 ++ b ++ c).drop 4 = C.be (sum b) 4 ++ (b ++ c) := by
    rw [List.append_assoc, List.append_assoc]
    exact List.drop_left' (C.be_len _ _)
  have e3 : (C.be b.length 4 ++ C.be (sum b) 4 ++ b ++ c).drop 8 = b ++ c := by
    rw [show (8 : Nat) = 4 + 4 from rfl, ← List.drop_drop, e2]
    exact List.drop_left' (C.be_len _ _)
  have v1 : C.val 0 (C.be b.length 4) = b.length := by rw [C.val_be]; exact Nat.mod_eq_of_lt (by omega)
  have v2 : C.val 0 (C.be (sum b) 4) = sum b := by rw [C.val_be]; exact Nat.mod_eq_of_lt (sum_lt b)
  have hl : (C.be b.length 4 ++ C.be (sum b) 4 ++ b ++ c).length = 8 + b.length + c.length := by simp [C.be_len]; omega
  show unwrap (C.be b.length 4 ++ C.be (sum b) 4 ++ b ++ c) = _
  unfold unwrap
  rw [e1, e2, e3, v1, hl, List.take_left' (C.be_len _ _), v2, List.take_left]
  rw [if_neg (by omega), if_neg (by omega), if_neg (by omega), if_pos rfl]
theorem all_wrap (b c : List UInt8) (h : b.length ≤ 60000) : all ((wrap b).1 ++ c) = (b :: (all c).1, 8 + b.length + (all c).2) := by
  have e := unwrap_wrap b c h
  rw [all_ok (by rw [e]), e]
  have : ((wrap b).1 ++ c).drop (8 + b.length) = c := List.drop_left' (wrap_len h)
  simp only [this]

/-- the bytes that a frame takes, followed by others, are read as that frame -/
theorem unwrap_app {b c : List UInt8} (n : Nat) (h : (unwrap b).2.2 = 0) (hn : (unwrap b).2.1 ≤ n) : unwrap (b.take n ++ c) = unwrap b := by
  obtain ⟨m, h1, h60, h2, h3, h4⟩ := unwrap_ok h
  rw [h2] at hn ⊢
  simp only at hn
  have t1 : (b.take n ++ c).take 4 = b.take 4 := by
    rw [List.take_append_of_le_length (by simp; omega), List.take_take, Nat.min_eq_left (by omega)]
  have t2 : ((b.take n ++ c).drop 4).take 4 = (b.drop 4).take 4 := by
    rw [List.drop_append_of_le_length (by simp; omega), List.take_append_of_le_length (by simp; omega), List.drop_take, List.take_take, Nat.min_eq_left (by omega)]
  have t3 : ((b.take n ++ c).drop 8).take m = (b.drop 8).take m := by
    rw [List.drop_append_of_le_length (by simp; omega), List.take_append_of_le_length (by simp; omega), List.drop_take, List.take_take, Nat.min_eq_left (by omega)]
  have hl : 8 + m ≤ (b.take n ++ c).length := by simp; omega
  unfold unwrap
  rw [t1, t2, h3, t3]
  rw [if_neg (by omega), if_neg (by omega), if_neg (by omega), if_pos h4]
/-- frames behind frames -/
theorem all_app (a c : List UInt8) : all (a.take (all a).2 ++ c) = ((all a).1 ++ (all c).1, (all a).2 + (all c).2) := by
  generalize hk : a.length = k
  induction k using Nat.strongRecOn generalizing a with
  | ind k ih =>
    by_cases h : (unwrap a).2.2 = 0
    · have e := all_ok h
      obtain ⟨n, h1, _, h2, _⟩ := unwrap_ok h
      have e1 : unwrap (a.take (all a).2 ++ c) = unwrap a := unwrap_app _ h (by rw [e]; simp)
      have i := ih (a.drop (unwrap a).2.1).length (by rw [h2]; simp; omega) _ rfl
      rw [all_ok (by rw [e1]; exact h), e1]
      have e2 : (a.take (all a).2 ++ c).drop (unwrap a).2.1 = (a.drop (unwrap a).2.1).take (all (a.drop (unwrap a).2.1)).2 ++ c := by
        rw [List.drop_append_of_le_length (by rw [e]; have := all_le (a.drop (unwrap a).2.1); rw [h2] at this ⊢; simp at this ⊢; omega), List.drop_take]
        rw [e]; simp
      rw [e2, i, e]
      simp [Nat.add_assoc]
    · rw [all_err h]; simp

/-! ### frames one behind the other, cut off anywhere -/
def cat (ls : List (List UInt8)) : List UInt8 := ls.flatMap fun b => (wrap b).1
theorem cat_snoc (ls : List (List UInt8)) (b : List UInt8) : cat (ls ++ [b]) = cat ls ++ (wrap b).1 := by simp [cat]
theorem cat_app (ls ms : List (List UInt8)) : cat (ls ++ ms) = cat ls ++ cat ms := by simp [cat]
theorem all_cat (ls : List (List UInt8)) (c : List UInt8) (h : ∀ b ∈ ls, b.length ≤ 60000) : all (cat ls ++ c) = (ls ++ (all c).1, (cat ls).length + (all c).2) := by
  induction ls with
  | nil => simp [cat]
  | cons b ls ih =>
    have e : cat (b :: ls) ++ c = (wrap b).1 ++ (cat ls ++ c) := by simp [cat]
    rw [e, all_wrap _ _ (h b (by simp)), ih (fun x hx => h x (by simp [hx]))]
    have e2 : (cat (b :: ls)).length = 8 + b.length + (cat ls).length := by
      show (((wrap b).1) ++ cat ls).length = _
      rw [List.length_append, wrap_len (h b (by simp))]
    rw [e2]
    simp [Nat.add_assoc]
/-- what is cut off within a frame is none -/
theorem unwrap_cut (b c : List UInt8) (r : Nat) (h : b.length ≤ 60000) (hr : r < 8 + b.length) : (unwrap (((wrap b).1 ++ c).take r)).2.2 = 4 := by
  have hl : (((wrap b).1 ++ c).take r).length = r := by simp [wrap_len h]; omega
  by_cases h8 : r < 8
  · unfold unwrap
    rw [if_pos (by omega)]
  · have e1 : (((wrap b).1 ++ c).take r).take 4 = C.be b.length 4 := by
      rw [List.take_take, Nat.min_eq_left (by omega), List.take_append_of_le_length (by rw [wrap_len h]; omega)]
      unfold wrap
      rw [if_neg (by omega)]
      show (C.be b.length 4 ++ C.be (sum b) 4 ++ b).take 4 = _
      rw [List.append_assoc]
      exact List.take_left' (C.be_len _ _)
    have v1 : C.val 0 (C.be b.length 4) = b.length := by rw [C.val_be]; exact Nat.mod_eq_of_lt (by omega)
    unfold unwrap
    rw [e1, v1, hl, if_neg (by omega), if_neg (by omega), if_pos (by omega)]
theorem all_cuts (ls : List (List UInt8)) (n at_ : Nat) (h : ∀ b ∈ ls, b.length ≤ 60000) (_hn : n ≤ ls.length) (hle : (cat (ls.take n)).length ≤ at_)
    (hnext : ∀ h : n < ls.length, at_ < (cat (ls.take n)).length + (8 + (ls[n]).length)) : all ((cat ls).take at_) = (ls.take n, (cat (ls.take n)).length) := by
  have e0 : cat ls = cat (ls.take n) ++ cat (ls.drop n) := by rw [← cat_app, List.take_append_drop]
  have e1 : (cat ls).take at_ = cat (ls.take n) ++ (cat (ls.drop n)).take (at_ - (cat (ls.take n)).length) := by
    rw [e0, List.take_append, List.take_of_length_le hle]
  rw [e1, all_cat _ _ (fun b hb => h b (List.mem_of_mem_take hb))]
  have e2 : all ((cat (ls.drop n)).take (at_ - (cat (ls.take n)).length)) = ([], 0) := by
    rcases Nat.lt_or_ge n ls.length with hlt | hge
    · rw [List.drop_eq_getElem_cons hlt]
      have hb : (ls[n]).length ≤ 60000 := h _ (List.getElem_mem hlt)
      apply all_err
      have := unwrap_cut ls[n] (cat (ls.drop (n + 1))) (at_ - (cat (ls.take n)).length) hb (by have := hnext hlt; omega)
      show (unwrap (((wrap ls[n]).1 ++ cat (ls.drop (n + 1))).take _)).2.2 ≠ 0
      rw [this]; decide
    · rw [List.drop_eq_nil_of_le hge]
      simp [cat, all_nil]
  rw [e2]; simp
theorem cat_take_succ (ls : List (List UInt8)) (n : Nat) (hn : n < ls.length) (h : ∀ b ∈ ls, b.length ≤ 60000) : (cat (ls.take (n + 1))).length = (cat (ls.take n)).length + (8 + (ls[n]).length) := by
  rw [List.take_succ_eq_append_getElem hn, cat_snoc, List.length_append, wrap_len (h _ (List.getElem_mem hn))]
end Go.Proofs.Ytmlchhfahpcohaa.F
