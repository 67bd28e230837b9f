/- Lists of structs as one list of cells: each as many cells as any other. No condition; no program in sight. -/
import Derived.Test.YtjofjpmhokjhnaaDoorWlM2
import Derived.Test.YtjofjpmhokjhnaaDoorWlM8
import Derived.Test.YtjofjpmhokjhnaaDoorWlM5
import Derived.Lib.OwnKind
namespace Go.Proofs.YtjofjpmhokjhnaaDoor.F

def wrap (b : List UInt8) : List UInt8 × Nat := if 60000 < b.length then ([], 3) else (C.be b.length 4 ++ C.be (sum b) 4 ++ b, 0)
/-- the body, how many bytes, the error -/
def unwrap (b : List UInt8) : List UInt8 × Nat × Nat :=
  if b.length < 8 then ([], 0, 4)
  else if 60000 < C.val 0 (b.take 4) then ([], 0, 3)
  else if b.length - 8 < C.val 0 (b.take 4) then ([], 0, 4)
  else if sum ((b.drop 8).take (C.val 0 (b.take 4))) = C.val 0 ((b.drop 4).take 4) then ((b.drop 8).take (C.val 0 (b.take 4)), 8 + C.val 0 (b.take 4), 0)
  else ([], 0, 5)

/-- the frames one behind the other: the bodies, and where they end -/
def allF : Nat → List UInt8 → List (List UInt8) × Nat
  | 0, _ => ([], 0)
  | k + 1, b => if (unwrap b).2.2 = 0 then ((unwrap b).1 :: (allF k (b.drop (unwrap b).2.1)).1, (unwrap b).2.1 + (allF k (b.drop (unwrap b).2.1)).2) else ([], 0)
def all (b : List UInt8) : List (List UInt8) × Nat := allF b.length b

theorem unwrap_ok {b : List UInt8} (h : (unwrap b).2.2 = 0) : ∃ n, 8 + n ≤ b.length ∧ n ≤ 60000 ∧ unwrap b = ((b.drop 8).take n, 8 + n, 0) ∧ C.val 0 (b.take 4) = n ∧ sum ((b.drop 8).take n) = C.val 0 ((b.drop 4).take 4) := by
  unfold unwrap at h ⊢
  split at h
  · simp at h
  split at h
  · simp at h
  split at h
  · simp at h
  split at h
  · rename_i h1 h2 h3 h4
    exact ⟨_, by omega, by omega, by rw [if_neg h1, if_neg h2, if_neg h3, if_pos h4], rfl, h4⟩
  · simp at h
theorem unwrap_nil : unwrap [] = ([], 0, 4) := rfl
theorem allF_more (k m : Nat) (b : List UInt8) (hk : b.length ≤ k) (hm : k ≤ m) : allF m b = allF k b := by
  induction k generalizing b m with
  | zero =>
    have : b = [] := List.eq_nil_of_length_eq_zero (by omega)
    subst this
    cases m with
    | zero => rfl
    | succ m => simp [allF, unwrap_nil]
  | succ k ih =>
    cases m with
    | zero => omega
    | succ m =>
      simp only [allF]
      by_cases h : (unwrap b).2.2 = 0
      · rw [if_pos h, if_pos h]
        obtain ⟨n, h1, _, h2, _⟩ := unwrap_ok h
        have e : allF m (b.drop (unwrap b).2.1) = allF k (b.drop (unwrap b).2.1) := ih m _ (by rw [h2]; simp; omega) (by omega)
        rw [e]
      · rw [if_neg h, if_neg h]
/-- one frame ahead -/
theorem all_ok {b : List UInt8} (h : (unwrap b).2.2 = 0) : all b = ((unwrap b).1 :: (all (b.drop (unwrap b).2.1)).1, (unwrap b).2.1 + (all (b.drop (unwrap b).2.1)).2) := by
  obtain ⟨n, h1, _, h2, _⟩ := unwrap_ok h
  unfold all
  cases hb : b.length with
  | zero => omega
  | succ k =>
    simp only [allF]
    rw [if_pos h]
    have e := allF_more (b.drop (unwrap b).2.1).length k (b.drop (unwrap b).2.1) (Nat.le_refl _) (by rw [h2]; simp; omega)
    rw [e]
theorem all_err {b : List UInt8} (h : (unwrap b).2.2 ≠ 0) : all b = ([], 0) := by
  unfold all
  cases hb : b.length with
  | zero => rfl
  | succ k => simp only [allF]; rw [if_neg h]
theorem all_nil : all [] = ([], 0) := rfl
theorem all_le (b : List UInt8) : (all b).2 ≤ b.length := by
  generalize hk : b.length = k
  induction k using Nat.strongRecOn generalizing b with
  | ind k ih =>
    by_cases h : (unwrap b).2.2 = 0
    · rw [all_ok h]
      obtain ⟨n, h1, _, h2, _⟩ := unwrap_ok h
      have := ih (b.drop (unwrap b).2.1).length (by rw [h2]; simp; omega) _ rfl
      rw [h2] at this ⊢
      simp at this ⊢
      omega
    · rw [all_err h]; exact Nat.zero_le _
/-- as many bodies as there are eight bytes, and no more -/
theorem all_count (b : List UInt8) : 8 * (all b).1.length ≤ (all b).2 := by
  generalize hk : b.length = k
  induction k using Nat.strongRecOn generalizing b with
  | ind k ih =>
    by_cases h : (unwrap b).2.2 = 0
    · rw [all_ok h]
      obtain ⟨n, h1, _, h2, _⟩ := unwrap_ok h
      have := ih (b.drop (unwrap b).2.1).length (by rw [h2]; simp; omega) _ rfl
      rw [h2] at this ⊢
      simp at this ⊢
      omega
    · rw [all_err h]; exact Nat.zero_le _

/-! ### what a frame is read as -/
theorem wrap_len {b : List UInt8} (h : b.length ≤ 60000) : (wrap b).1.length = 8 + b.length := by
  unfold wrap
  rw [if_neg (by omega)]
  simp [C.be_len]; omega
theorem unwrap_wrap (b c : List UInt8) (h : b.length ≤ 60000) : unwrap ((wrap b).1 ++ c) = (b, 8 + b.length, 0) := by
  unfold wrap
  rw [if_neg (by omega)]
  have e1 : (C.be b.length 4 ++ C.be (sum b) 4 ++ b ++ c).take 4 = C.be b.length 4 := by
    rw [List.append_assoc, List.append_assoc]
    rw [show (4 : Nat) = (C.be b.length 4).length from (C.be_len _ _).symm]
    rw [C.be_len]
    exact List.take_left' (C.be_len _ _)
  have e2 : (C.be b.length 4 ++ C.be (sum b) 4 ++ b ++ c).drop 4 = C.be (sum b) 4 ++ (b ++ c) := by
    rw [List.append_assoc, List.append_assoc]
    exact List.drop_left' (C.be_len _ _)
  have e3 : (C.be b.length 4 ++ C.be (sum b) 4 ++ b ++ c).drop 8 = b ++ c := by
    rw [show (8 : Nat) = 4 + 4 from rfl, ← List.drop_drop, e2]
    exact List.drop_left' (C.be_len _ _)
  have v1 : C.val 0 (C.be b.length 4) = b.length := by rw [C.val_be]; exact Nat.mod_eq_of_lt (by omega)
  have v2 : C.val 0 (C.be (sum b) 4) = sum b := by rw [C.val_be]; exact Nat.mod_eq_of_lt (sum_lt b)
  have hl : (C.be b.length 4 ++ C.be (sum b) 4 ++ b ++ c).length = 8 + b.length + c.length := by simp [C.be_len]; omega
  show unwrap (C.be b.length 4 ++ C.be (sum b) 4 ++ b ++ c) = _
  unfold unwrap
  rw [e1, e2, e3, v1, hl, List.take_left' (C.be_len _ _), v2, List.take_left]
  rw [if_neg (by omega), if_neg (by omega), if_neg (by omega), if_pos rfl]
theorem all_wrap (b c : List UInt8) (h : b.length ≤ 60000) : all ((wrap b).1 ++ c) = (b :: (all c).1, 8 + b.length + (all c).2) := by
  have e := unwrap_wrap b c h
  rw [all_ok (by rw [e]), e]
  have : ((wrap b).1 ++ c).drop (8 + b.length) = c := List.drop_left' (wrap_len h)
  simp only [this]

/-! ### frames one behind the other, cut off anywhere -/
def cat (ls : List (List UInt8)) : List UInt8 := ls.flatMap fun b => (wrap b).1
theorem cat_snoc (ls : List (List UInt8)) (b : List UInt8) : cat (ls ++ [b]) = cat ls ++ (wrap b).1 := by simp [cat]
theorem cat_app (ls ms : List (List UInt8)) : cat (ls ++ ms) = cat ls ++ cat ms := by simp [cat]
theorem all_cat (ls : List (List UInt8)) (c : List UInt8) (h : ∀ b ∈ ls, b.length ≤ 60000) : all (cat ls ++ c) = (ls ++ (all c).1, (cat ls).length + (all c).2) := by
  induction ls with
  | nil => simp [cat]
  | cons b ls ih =>
    have e : cat (b :: ls) ++ c = (wrap b).1 ++ (cat ls ++ c) := by simp [cat]
    rw [e, all_wrap _ _ (h b (by simp)), ih (fun x hx => h x (by simp [hx]))]
    have e2 : (cat (b :: ls)).length = 8 + b.length + (cat ls).length := by
      show (((wrap b).1) ++ cat ls).length = _
      rw [List.length_append, wrap_len (h b (by simp))]
    rw [e2]
    simp [Nat.add_assoc]
/-- what is cut off within a frame is none -/
theorem unwrap_cut (b c : List UInt8) (r : Nat) (h : b.length ≤ 60000) (hr : r < 8 + b.length) : (unwrap (((wrap b).1 ++ c).take r)).2.2 = 4 := by
  have hl : (((wrap b).1 ++ c).take r).length = r := by simp [wrap_len h]; omega
  by_cases h8 : r < 8
  · unfold unwrap
    rw [if_pos (by omega)]
  · have e1 : (((wrap b).1 ++ c).take r).take 4 = C.be b.length 4 := by
      rw [List.take_take, Nat.min_eq_left (by omega), List.take_append_of_le_length (by rw [wrap_len h]; omega)]
      unfold wrap
      rw [if_neg (by omega)]
      show (C.be b.length 4 ++ C.be (sum b) 4 ++ b).take 4 = _
      rw [List.append_assoc]
      exact List.take_left' (C.be_len _ _)
    have v1 : C.val 0 (C.be b.length 4) = b.length := by rw [C.val_be]; exact Nat.mod_eq_of_lt (by omega)
    unfold unwrap
    rw [e1, v1, hl, if_neg (by omega), if_neg (by omega), if_pos (by omega)]
theorem all_cuts (ls : List (List UInt8)) (n at_ : Nat) (h : ∀ b ∈ ls, b.length ≤ 60000) (_hn : n ≤ ls.length) (hle : (cat (ls.take n)).length ≤ at_)
    (hnext : ∀ h : n < ls.length, at_ < (cat (ls.take n)).length + (8 + (ls[n]).length)) : all ((cat ls).take at_) = (ls.take n, (cat (ls.take n)).length) := by
  have e0 : cat ls = cat (ls.take n) ++ cat (ls.drop n) := by rw [← cat_app, List.take_append_drop]
  have e1 : (cat ls).take at_ = cat (ls.take n) ++ (cat (ls.drop n)).take (at_ - (cat (ls.take n)).length) := by
    rw [e0, List.take_append, List.take_of_length_le hle]
  rw [e1, all_cat _ _ (fun b hb => h b (List.mem_of_mem_take hb))]
  have e2 : all ((cat (ls.drop n)).take (at_ - (cat (ls.take n)).length)) = ([], 0) := by
    rcases Nat.lt_or_ge n ls.length with hlt | hge
    · rw [List.drop_eq_getElem_cons hlt]
      have hb : (ls[n]).length ≤ 60000 := h _ (List.getElem_mem hlt)
      apply all_err
      have := unwrap_cut ls[n] (cat (ls.drop (n + 1))) (at_ - (cat (ls.take n)).length) hb (by have := hnext hlt; omega)
      show (unwrap (((wrap ls[n]).1 ++ cat (ls.drop (n + 1))).take _)).2.2 ≠ 0
      rw [this]; decide
    · rw [List.drop_eq_nil_of_le hge]
      simp [cat, all_nil]
  rw [e2]; simp
theorem cat_take_succ (ls : List (List UInt8)) (n : Nat) (hn : n < ls.length) (h : ∀ b ∈ ls, b.length ≤ 60000) : (cat (ls.take (n + 1))).length = (cat (ls.take n)).length + (8 + (ls[n]).length) := by
  rw [List.take_succ_eq_append_getElem hn, cat_snoc, List.length_append, wrap_len (h _ (List.getElem_mem hn))]
end Go.Proofs.YtjofjpmhokjhnaaDoor.F

namespace Go.Proofs.YtjofjpmhokjhnaaDoor
set_option maxRecDepth 20000
set_option maxRecDepth 20001
open Go.RowKit
set_option linter.unusedSimpArgs false
set_option linter.unusedVariables false

theorem F.step_odd (y : Nat) (h : y < 4294967296) (h2 : y % 2 = 1) : bits BinOp.xor IntKind.u32 ((y : Int) / 2) 3988292384 = ((F.step y : Nat) : Int) := by
  have e := u32_xor_nat (y / 2) 3988292384 (by omega) (by decide)
  unfold F.step
  rw [if_pos h2]
  rw [← show ((F.poly : Nat) : Int) = 3988292384 from rfl]
  have e1 : ((y : Int) / 2) = ((y / 2 : Nat) : Int) := by omega
  rw [e1]
  exact e
theorem F.step_even (y : Nat) (h2 : ¬ y % 2 = 1) : ((y : Int) / 2) = ((F.step y : Nat) : Int) := by
  unfold F.step
  rw [if_neg h2]
  omega
theorem F.step_bits (y : Nat) (h : y < 4294967296) : bits BinOp.xor IntKind.u32 ((y : Int) / 2) (bits BinOp.and IntKind.u32 3988292384 (-bits BinOp.and IntKind.u32 (y : Int) 1 % 4294967296)) = ((F.step y : Nat) : Int) := by
  have e1 : bits BinOp.and IntKind.u32 (y : Int) 1 = ((y % 2 : Nat) : Int) := by
    have := u32_and_nat y 1 h (by decide)
    rw [Nat.and_one_is_mod] at this
    exact this
  rw [e1]
  rcases Nat.mod_two_eq_zero_or_one y with h2 | h2
  · rw [h2]
    have e2 : (-((0 : Nat) : Int)) % 4294967296 = ((0 : Nat) : Int) := by omega
    rw [e2]
    have e3 : bits BinOp.and IntKind.u32 3988292384 ((0 : Nat) : Int) = 0 := by
      have := u32_and_nat 3988292384 0 (by decide) (by decide)
      rw [Nat.and_zero] at this
      exact this
    rw [e3]
    have e4 := u32_xor_nat (y / 2) 0 (by omega) (by decide)
    rw [Nat.xor_zero] at e4
    rw [← F.step_even y (by omega)]
    have e5 : ((y : Int) / 2) = ((y / 2 : Nat) : Int) := by omega
    rw [e5]
    exact e4
  · rw [h2]
    have e2 : (-((1 : Nat) : Int)) % 4294967296 = ((4294967295 : Nat) : Int) := by omega
    rw [e2]
    have e3 : bits BinOp.and IntKind.u32 3988292384 ((4294967295 : Nat) : Int) = 3988292384 := by
      have := u32_and_nat 3988292384 4294967295 (by decide) (by decide)
      rw [show (3988292384 &&& 4294967295 : Nat) = 3988292384 from by decide] at this
      exact this
    rw [e3]
    exact F.step_odd y h h2

theorem F.flip (t : Nat) (h : t < 4294967296) : bits BinOp.xor IntKind.u32 IntKind.u32.max (t : Int) = ((4294967295 - t : Nat) : Int) := by
  have e := u32_xor_nat 4294967295 t (by decide) h
  have e2 : (4294967295 ^^^ t : Nat) = 4294967295 - t := by
    apply Nat.eq_of_testBit_eq
    intro i
    rw [Nat.testBit_xor, show (4294967295 : Nat) - t = 2 ^ 32 - (t + 1) from by omega, Nat.testBit_two_pow_sub_succ (by omega), show (4294967295 : Nat) = 2 ^ 32 - 1 from rfl, Nat.testBit_two_pow_sub_one]
    by_cases hi : i < 32
    · simp [hi]
    · have : t.testBit i = false := Nat.testBit_lt_two_pow (Nat.lt_of_lt_of_le h (Nat.pow_le_pow_right (n := 2) (by omega) (show 32 ≤ i by omega)))
      simp [hi, this]
  rw [e2] at e
  exact e

set_option maxHeartbeats 800000 in
theorem sum_any (A : Option Addr) (c : Nat) (l : List UInt8) (w : World) (B : Nat) (hl : l.length ≤ 1099511627776) (hc : l.length ≤ c) (hr : Rd w B A (bc l)) :
    Calls Tryd.prog 133 #[.slice A l.length c] w fun e w' => e = .returned (.int .u32 (F.sum l : Nat)) ∧ w = w' := by
  obtain ⟨n, hn⟩ : ∃ n, n = l.length := ⟨_, rfl⟩
  have HN := Lib.hid hn
  rw [← hn] at hl hc ⊢
  clear hn
  go_enter Tryd.func133, Tryd.ntmps133
  go_wp2_with fail
  go_loop [3, 8] (fun s i => ∃ (k t : Nat), k ≤ n ∧ i = .int .i64 k ∧ s = .int .u32 (t : Int) ∧ t < 4294967296 ∧ Hid (F.run t (l.drop k) = F.run 4294967295 l)) (fun _ i => n - (intOf i).toNat)
  case atStart => exact ⟨0, 4294967295, Nat.zero_le _, rfl, rfl, by omega, rfl⟩
  case round =>
    obtain ⟨k, t, hk, rfl, rfl, ht, HR⟩ := hrel
    by_cases hlt : k < n
    · have hk2 : k < (bc l).length := by rw [bc_len, ← HN.out]; exact hlt
      obtain ⟨ab, ao, rfl, _, hca⟩ := hr.at_ hk2
      rw [bc_get] at hca
      have hjo : k < l.length := by rw [← HN.out]; exact hlt
      have HR2 : Hid (F.run (F.upd t l[k]) (l.drop (k + 1)) = F.run 4294967295 l) := by
        show _ = _
        rw [← HR.out, List.drop_eq_getElem_cons hjo]; rfl
      have hby := (l[k]'hjo).toNat_lt
      generalize l[k]'hjo = b at hca HR2 hby
      have hb0 : (0 : Int) ≤ (k : Int) := by omega
      have hb1 : (k : Int) < (n : Int) := by omega
      clear hk2
      go_wp2_with fail
      rw [u32_xor_nat t b.toNat ht (by omega)]
      have hx : t ^^^ b.toNat < 4294967296 := Nat.xor_lt_two_pow (n := 32) ht (by omega)
      unfold F.upd at HR2
      generalize t ^^^ b.toNat = x at hx HR2 ⊢
      clear HR
      go_loop [3, 16] (fun s i => ∃ (j y : Nat), j ≤ 8 ∧ i = .int .i64 j ∧ s = .int .u32 (y : Int) ∧ y < 4294967296 ∧ Hid (F.steps (8 - j) y = F.steps 8 x)) (fun _ i => 8 - (intOf i).toNat)
      case atStart => exact ⟨0, x, by omega, rfl, rfl, hx, rfl⟩
      case round =>
        obtain ⟨j, y, hj, rfl, rfl, hy, HS⟩ := hrel
        by_cases hj8 : j < 8
        · have HS2 : Hid (F.steps (8 - (j + 1)) (F.step y) = F.steps 8 x) := by
            show _ = _
            rw [← HS.out, show 8 - j = (8 - (j + 1)) + 1 from by omega]; rfl
          have hy2 := F.step_lt hy
          have HB := Lib.hid (F.step_bits y hy)
          clear HS
          go_wp2_with fail
          refine ⟨⟨j + 1, F.step y, by omega, by go_num, by rw [HB.out], hy2, HS2⟩, by simp [intOf]; omega⟩
        · obtain rfl : j = 8 := by omega
          have hyx : y = F.steps 8 x := by have := HS.out; simpa [F.steps] using this
          clear HS
          rw [← hyx] at HR2
          clear hyx
          go_wp2_with fail
          exact ⟨⟨k + 1, y, by omega, by go_num, rfl, hy, HR2⟩, by simp [intOf]; omega⟩
    · obtain rfl : k = n := by omega
      have hfin : F.sum l = 4294967295 - t := by
        have := HR.out
        rw [List.drop_of_length_le (by rw [← HN.out]; omega)] at this
        unfold F.sum; rw [← this]; rfl
      have HF := Lib.hid hfin
      clear hfin HR
      go_wp2_with fail
      go_ret
      refine ⟨ret_int ?_, rfl⟩
      rw [HF.out]
      exact F.flip t ht

end Go.Proofs.YtjofjpmhokjhnaaDoor

namespace Go.Proofs.YtjofjpmhokjhnaaDoor
set_option maxRecDepth 20001
open Go.RowKit
set_option linter.unusedSimpArgs false
set_option linter.unusedVariables false

/-- a row of bytes of the call's own, and an error -/
def MadeE (w : World) (p : List UInt8 × Nat) (e : Ending) (w' : World) : Prop :=
  ∃ v, e = .returned (.tuple #[v, .int .i64 (p.2 : Int)]) ∧ w'.ownsRow w.heap.size 5 1 v p.1.length (bc p.1) ∧ Below w.heap.size w w'

theorem wrap_four (x : Nat) (l : List UInt8) : C.put l x 4 = l ++ C.be x 4 := rfl
theorem wrap_eq (l : List UInt8) (h : ¬ 60000 < l.length) : F.wrap l = (C.put (C.be l.length 4) (F.sum l) 4 ++ l, 0) := by
  unfold F.wrap; rw [if_neg h, wrap_four]

set_option maxHeartbeats 800000 in
theorem wrap_any (A : Option Addr) (c : Nat) (l : List UInt8) (w : World) (B : Nat) (hl : l.length ≤ 2147483648) (hc : l.length ≤ c) (hA : A = none → l = [] ∧ c = 0) (hr : Rd w B A (bc l)) (hB : B ≤ w.heap.size) :
    Calls Tryd.prog 116 #[.slice A l.length c] w (MadeE w (F.wrap l)) := by
  obtain ⟨i0, hi, hz0, hz1, hz2⟩ := info_parts info_u8
  have hA' : A = none → c = 0 := fun h => (hA h).2
  by_cases h6 : 60000 < l.length
  · have e : F.wrap l = ([], 3) := by unfold F.wrap; rw [if_pos h6]
    rw [e]
    clear e
    generalize l.length = n at *
    go_enter Tryd.func116, Tryd.ntmps116
    go_wp2_with fail
    go_ret2
    exact ⟨_, rfl, World.ownsRow_nil _ _ _ _, Below.refl _ _⟩
  · have E := Lib.hid (wrap_eq l h6)
    rw [E.out]
    have hs := F.sum_lt l
    obtain ⟨n, hn⟩ : ∃ n, n = l.length := ⟨_, rfl⟩
    have HN := Lib.hid hn
    rw [← hn] at hl hc h6 ⊢
    clear E hn
    go_enter Tryd.func116, Tryd.ntmps116
    go_wp2_with fail
    refine (put_nil n 4 w (by omega)).mono ?_
    rintro e w1 ⟨v1, rfl, own1, b1⟩
    obtain ⟨A1, c1, rfl, hc1, hA1, hm1⟩ := ownShape own1
    go_wp2_with fail
    rw [HN.out]
    refine (sum_any A c l _ B (by rw [← HN.out]; omega) (by rw [← HN.out]; exact hc) (hr.belowM b1 hB)).mono ?_
    rintro e w' ⟨rfl, rfl⟩
    rw [← HN.out]
    go_wp2_with fail
    refine (put_any A1 c1 (C.be n (C.clamp8 4)) (F.sum l) 4 _ _ (by rw [C.be_len]; decide) (fun h => ⟨List.eq_nil_of_length_eq_zero (hA1 h).1, (hA1 h).2⟩) (Rd.ofOwn own1) (Nat.le_refl _) (by omega)).mono ?_
    rintro e w2 ⟨v2, rfl, own2, b2⟩
    have b2' := b1.trans (b2.mono b1.size)
    have len2 : (C.put (C.be n (C.clamp8 4)) (F.sum l) 4).length = 8 := by unfold C.put; rw [List.length_append, C.be_len, C.be_len]; decide
    have own2 := ownMore own2 b1.size
    have L2 := Lib.hid len2
    clear len2
    go_wp2_with (at_builtin; refine wpList_append_rd _ rfl _ _ 37 rfl w.heap.size 5 i0 (.int .u8 0) 1 Tryd.underlying37 hi hz0 hz1 hz2 rfl _ _ _ rfl own2 B A n c (bc l) rfl ?c1 hA' (hr.belowM b2' hB) (bc_one l) ?c3 ?c4 ?c5 ?_)
    case c1 => rw [bc_len, HN.out]
    case c3 => rw [L2.out]; unfold maxLen; omega
    case c4 => rw [L2.out]; omega
    case c5 => exact b2'.size
    intro v' w3 own3 g3
    have R := appM own2 b2' own3 (by rw [HN.out]) g3
    clear own3 g3 own2 b2' b2
    go_wp2
    go_ret2
    exact ⟨v', rfl, R.1, R.2⟩

end Go.Proofs.YtjofjpmhokjhnaaDoor

namespace Go.Proofs.YtjofjpmhokjhnaaDoor
set_option maxRecDepth 20001
open Go.RowKit
set_option linter.unusedSimpArgs false
set_option linter.unusedVariables false
/-- all cells, one struct behind the other -/
def flat {α : Type} (enc : α → List Value) (l : List α) : List Value := l.flatMap enc
section
variable {α : Type} {enc : α → List Value} {sz : Nat}
theorem flat_app (l m : List α) : flat enc (l ++ m) = flat enc l ++ flat enc m := by simp [flat]
theorem flat_cons (a : α) (l : List α) : flat enc (a :: l) = enc a ++ flat enc l := by simp [flat]
theorem flat_len2 (hs : ∀ a, (enc a).length = sz) (l : List α) : (flat enc l).length = l.length * sz := by
  induction l with
  | nil => simp [flat]
  | cons a t ih => rw [flat_cons, List.length_append, hs, ih, List.length_cons, Nat.add_mul]; omega
theorem list_split {l : List α} {k : Nat} {x : α} (h : l[k]? = some x) : l = l.take k ++ x :: l.drop (k + 1) ∧ k < l.length := by
  obtain ⟨hk, rfl⟩ := List.getElem?_eq_some_iff.1 h
  exact ⟨by rw [List.getElem_cons_drop, List.take_append_drop], hk⟩
theorem flat_split (hs : ∀ a, (enc a).length = sz) {l : List α} {k : Nat} {x : α} (h : l[k]? = some x) :
    flat enc l = flat enc (l.take k) ++ (enc x ++ flat enc (l.drop (k + 1))) ∧ (flat enc (l.take k)).length = k * sz := by
  obtain ⟨e, hk⟩ := list_split h
  refine ⟨?_, by rw [flat_len2 hs, List.length_take, Nat.min_eq_left (by omega)]⟩
  conv => lhs; rw [e]
  rw [flat_app, flat_cons]
theorem flat_at2 (hs : ∀ a, (enc a).length = sz) {l : List α} {k : Nat} {x : α} (h : l[k]? = some x) (j : Nat) (v : Value) (hv : (enc x)[j]? = some v) : (flat enc l)[k * sz + j]? = some v := by
  obtain ⟨e, hl⟩ := flat_split hs h
  have hj : j < (enc x).length := (List.getElem?_eq_some_iff.1 hv).1
  rw [e, List.getElem?_append_right (by omega), hl, show k * sz + j - k * sz = j by omega, List.getElem?_append_left hj]
  exact hv
end
/-- rows that are owned: the slice, its cells -/
theorem flatOwn {α : Type} {enc : α → List Value} {sz : Nat} (hs : ∀ a, (enc a).length = sz) (hpos : 0 < sz) {w : World} {base e : Nat} {v : Value} {l : List α} (h : w.ownsRow base e sz v l.length (flat enc l)) :
    ∃ (A : Option Addr) (c : Nat), v = .slice A l.length c ∧ l.length ≤ c ∧ RowsAt w w.heap.size A sz (l.map enc) ∧ (l.length ≠ 0 → ∃ g, A = some ⟨g, 0, none⟩ ∧ base ≤ g ∧ g < w.heap.size) := by
  rcases h.2 with ⟨rfl, h0⟩ | ⟨g, cap, cur, rfl, hb, hg, hc, hm, _⟩
  · have : l = [] := List.length_eq_zero_iff.1 h0
    subst this
    exact ⟨none, 0, rfl, Nat.le_refl _, RowsAt.nil, fun h => absurd rfl h⟩
  · have hgs : g < w.heap.size := (Array.getElem?_eq_some_iff.1 hg).1
    refine ⟨some ⟨g, 0, none⟩, cap, rfl, hc, fun i cs hi => ?_, fun _ => ⟨g, rfl, hb, hgs⟩⟩
    rw [List.getElem?_map] at hi
    cases hx : l[i]? with
    | none => rw [hx] at hi; simp at hi
    | some x =>
      rw [hx] at hi
      simp at hi
      subst hi
      refine ⟨g, 0, rfl, hgs, fun j u hu => ?_⟩
      have hc := h.cells (g := g) rfl (i * sz + j) u (flat_at2 hs hx j u hu)
      rw [Addr.add_mid] at hc
      simpa [Nat.add_assoc] using hc
end Go.Proofs.YtjofjpmhokjhnaaDoor
