/- The walks of layer 4's keys. Conditions: a text is no longer than any Go text. -/
import Derived.Test.YtjofjpmhokjhnaaDoorArgs
import Derived.Test.YtjofjpmhokjhnaaDoorShelfTrim
import Derived.Lib.SlTrimSet
namespace Go.Proofs.YtjofjpmhokjhnaaDoor
set_option maxRecDepth 20000
open Go.RowKit
set_option linter.unusedSimpArgs false
set_option linter.unusedVariables false

namespace V
/-- is a byte a key's -/
def kb (b : UInt8) : Bool := decide (97 ≤ b.toNat ∧ b.toNat ≤ 122) || decide (48 ≤ b.toNat ∧ b.toNat ≤ 57)
def cut : List UInt8 := [97, 98, 99, 100, 101, 102, 103, 104, 105, 106, 107, 108, 109, 110, 111, 112, 113, 114, 115, 116, 117, 118, 119, 120, 121, 122, 48, 49, 50, 51, 52, 53, 54, 55, 56, 57]
theorem kb_cut : ∀ b : UInt8, cut.contains b = kb b := by
  have h : ∀ n : Fin 256, cut.contains (UInt8.ofNat n.val) = kb (UInt8.ofNat n.val) := by decide +kernel
  intro b
  have := h ⟨b.toNat, b.toNat_lt⟩
  simpa using this
def key (l : List UInt8) : Bool := decide (1 ≤ l.length) && decide (l.length ≤ 12) && l.all kb
theorem all_of_drop (p : UInt8 → Bool) (l : List UInt8) (h : ∀ y ∈ l.dropWhile p, p y = true) : ∀ y ∈ l, p y = true := by
  induction l with
  | nil => intro y hy; cases hy
  | cons a l ih =>
    by_cases ha : p a = true
    · rw [List.dropWhile_cons_of_pos ha] at h
      intro y hy
      rcases List.mem_cons.1 hy with rfl | hy
      · exact ha
      · exact ih h y hy
    · rw [List.dropWhile_cons_of_neg ha] at h
      exact h
theorem drop_nil (p : UInt8 → Bool) (l : List UInt8) (h : ∀ y ∈ l, p y = true) : l.dropWhile p = [] := by
  induction l with
  | nil => rfl
  | cons a l ih =>
    rw [List.dropWhile_cons_of_pos (h a (by simp))]
    exact ih fun y hy => h y (by simp [hy])
theorem trim_nil (l : List UInt8) : (Lib.trimS l cut = []) ↔ l.all kb = true := by
  have e : (fun b => cut.contains b) = kb := funext kb_cut
  unfold Lib.trimS Lib.trimLeftS Lib.trimRightS
  rw [e, List.all_eq_true]
  constructor
  · intro h y hy
    have h1 : ∀ y ∈ (l.reverse.dropWhile kb).reverse, kb y = true := all_of_drop kb _ (by rw [h]; intro y hy; cases hy)
    have h2 := all_of_drop kb l.reverse (fun y hy => h1 y (by simpa using hy))
    exact h2 y (by simpa using hy)
  · intro h
    rw [drop_nil kb l.reverse (fun y hy => h y (by simpa using hy))]
    rfl
end V

set_option maxHeartbeats 1600000 in
theorem key_any (s : ByteArray) (w : World) (hs : s.size ≤ 9223372036854775807) :
    Calls Tryd.prog 49 #[.string s] w fun e w' => e = .returned (.bool (V.key s.data.toList)) ∧ Below w.heap.size w w' := by
  have hsz : s.data.toList.length = s.size := by rw [Array.length_toList]; rfl
  have hcon := Any.strings_Trim_laid Tryd.laysTrim (by kernel_rfl) s ⟨V.cut.toArray⟩ w hs (by decide) (ascii_of_all (by decide))
  change Calls Tryd.prog 106 _ _ (fun e w' => e = .returned (.string ⟨(Lib.trimS s.data.toList V.cut).toArray⟩) ∧ Below w.heap.size w w') at hcon
  obtain ⟨v, hv⟩ : ∃ v, v = V.key s.data.toList := ⟨_, rfl⟩
  have HV := Lib.hid hv
  rw [← hv]
  unfold V.key at hv
  by_cases h1 : 1 ≤ s.size
  · by_cases h12 : s.size ≤ 12
    · rw [hsz, decide_eq_true h1, decide_eq_true h12, Bool.true_and, Bool.true_and] at hv
      have ht := V.trim_nil s.data.toList
      obtain ⟨r, hr⟩ : ∃ r, r = Lib.trimS s.data.toList V.cut := ⟨_, rfl⟩
      rw [← hr] at hcon ht
      rw [← hv] at ht
      have HC := Lib.hid hcon
      clear hcon hr hv HV hsz
      have hrr : (⟨r.toArray⟩ : ByteArray).toList.isEmpty = v := by
        rw [Lib.toList_data]
        simp only [List.toList_toArray]
        cases v with
        | true => rw [ht.2 rfl]; rfl
        | false => cases r with
          | nil => have := ht.1 rfl; cases this
          | cons a r => rfl
      have HR := Lib.hid hrr
      clear ht hrr
      go_enter Tryd.func49, Tryd.ntmps49
      go_wp2_with fail
      refine HC.out.mono ?_
      rintro e w1 ⟨rfl, b1⟩
      generalize (⟨r.toArray⟩ : ByteArray) = rs at HR
      go_wp2_with fail
      go_ret
      exact ⟨ret_bool HR.out, b1⟩
    · have hf : v = false := by rw [hv, hsz, decide_eq_false h12]; simp
      have HF := Lib.hid hf
      clear hcon hv HV hsz hf
      go_enter Tryd.func49, Tryd.ntmps49
      go_wp2_with fail
      go_ret
      exact ⟨ret_bool HF.out.symm, Below.refl _ _⟩
  · have hf : v = false := by rw [hv, hsz, decide_eq_false h1]; simp
    have HF := Lib.hid hf
    clear hcon hv HV hsz hf
    go_enter Tryd.func49, Tryd.ntmps49
    go_wp2_with fail
    go_ret
    exact ⟨ret_bool HF.out.symm, Below.refl _ _⟩

set_option maxHeartbeats 1600000 in
theorem formed_zero (w : World) :
    Calls Tryd.prog 48 #[.agg #[.int .i64 0, .int .u64 0, .string ⟨#[]⟩]] w fun e w' => e = .returned (.bool true) ∧ Below w.heap.size w w' := by
  go_enter Tryd.func48, Tryd.ntmps48
  go_wp2_with fail
  go_ret
  exact ⟨rfl, (Below.refl _ _).alloc (Nat.le_refl _) _⟩
namespace V
theorem key_nil : key [] = false := rfl
theorem key_take {l : List UInt8} (h : key l = true) (n : Nat) (h1 : 1 ≤ n) : key (l.take n) = true := by
  unfold key at *
  simp only [Bool.and_eq_true, decide_eq_true_eq, List.all_eq_true] at *
  obtain ⟨⟨a, b⟩, c⟩ := h
  refine ⟨⟨by simp; omega, by simp; omega⟩, fun x hx => c x (List.mem_of_mem_take hx)⟩
theorem key_app {l m : List UInt8} (h : key l = true) (g : key m = true) : key (l ++ m) = decide (l.length + m.length ≤ 12) := by
  unfold key at *
  simp only [Bool.and_eq_true, decide_eq_true_eq, List.all_eq_true] at h g
  obtain ⟨⟨a, b⟩, c⟩ := h
  obtain ⟨⟨a', b'⟩, c'⟩ := g
  have e1 : (l ++ m).all kb = true := by rw [List.all_append]; simp [List.all_eq_true.2 c, List.all_eq_true.2 c']
  rw [e1, decide_eq_true (show 1 ≤ (l ++ m).length by simp; omega), Bool.and_true, Bool.true_and]
  simp
theorem key_dash (l : List UInt8) : key (l ++ [45]) = false := by
  unfold key
  have : (l ++ [45]).all kb = false := by rw [List.all_append]; simp [kb]
  rw [this, Bool.and_false]
theorem key_A (l : List UInt8) : key (65 :: l) = false := by
  unfold key
  have : (65 :: l).all kb = false := by rw [List.all_cons]; simp [kb]
  rw [this, Bool.and_false]
end V
end Go.Proofs.YtjofjpmhokjhnaaDoor
