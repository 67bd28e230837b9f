import Derived.Test.YtimfoimcaapodaaDoorVbM10
import Derived.Test.YtimfoimcaapodaaDoorVbM11
import Derived.Test.YtimfoimcaapodaaDoorShelfTrim
import Derived.Lib.SlTrimSet
set_option maxHeartbeats 1600000
set_option maxRecDepth 20001
set_option linter.unusedSimpArgs false
set_option linter.unusedVariables false
namespace Go.Proofs.YtimfoimcaapodaaDoor
set_option maxRecDepth 20000
section
open Go.RowKit
namespace V
def kb (b : UInt8) : Bool := decide (97 ≤ b.toNat ∧ b.toNat ≤ 122) || decide (48 ≤ b.toNat ∧ b.toNat ≤ 57)
def cut : List UInt8 := [97, 98, 99, 100, 101, 102, 103, 104, 105, 106, 107, 108, 109, 110, 111, 112, 113, 114, 115, 116, 117, 118, 119, 120, 121, 122, 48, 49, 50, 51, 52, 53, 54, 55, 56, 57]
theorem kb_cut : ∀ b : UInt8, cut.contains b = kb b := by
 (have h : ∀ n : Fin 256, cut.contains (UInt8.ofNat n.val) = kb (UInt8.ofNat n.val) := by decide +kernel);intro b;have := h ⟨b.toNat, b.toNat_lt⟩
 simpa using this
def key (l : List UInt8) : Bool := decide (1 ≤ l.length) && decide (l.length ≤ 12) && l.all kb
theorem all_of_drop (p : UInt8 → Bool) (l : List UInt8) (h : ∀ y ∈ l.dropWhile p, p y = true) : ∀ y ∈ l, p y = true := by
 induction l with
 | nil => intro y hy; cases hy
 | cons a l ih =>
   by_cases ha : p a = true
   ·rw [List.dropWhile_cons_of_pos ha] at h;intro y hy;rcases List.mem_cons.1 hy with rfl | hy
    ·exact ha
    ·exact ih h y hy
   ·rw [List.dropWhile_cons_of_neg ha] at h;exact h
theorem drop_nil (p : UInt8 → Bool) (l : List UInt8) (h : ∀ y ∈ l, p y = true) : l.dropWhile p = [] := by
 induction l with
 | nil => rfl
 | cons a l ih =>
   rw [List.dropWhile_cons_of_pos (h a (by simp))];exact ih fun y hy => h y (by simp [hy])
theorem trim_nil (l : List UInt8) : (Lib.trimS l cut = []) ↔ l.all kb = true := by
 have e : (fun b => cut.contains b) = kb := funext kb_cut;unfold Lib.trimS Lib.trimLeftS Lib.trimRightS;rw [e, List.all_eq_true];constructor
 ·intro h y hy;have h1 : ∀ y ∈ (l.reverse.dropWhile kb).reverse, kb y = true := all_of_drop kb _ (by rw [h]; intro y hy; cases hy);have h2 := all_of_drop kb l.reverse (fun y hy => h1 y (by simpa using hy));exact h2 y (by simpa using hy)
 ·intro h;rw [drop_nil kb l.reverse (fun y hy => h y (by simpa using hy))];rfl
end V
theorem key_any (s : ByteArray) (w : World) (hs : s.size ≤ 9223372036854775807) :
 Calls Tryd.prog 15 #[.string s] w fun e w' => e = .returned (.bool (V.key s.data.toList)) ∧ Below w.heap.size w w' := by
 (have hsz : s.data.toList.length = s.size := by rw [Array.length_toList]; rfl);have hcon := Any.strings_Trim_laid Tryd.laysTrim (by kernel_rfl) s ⟨V.cut.toArray⟩ w hs (by decide) (ascii_of_all (by decide));change Calls Tryd.prog 29 _ _ (fun e w' => e = .returned (.string ⟨(Lib.trimS s.data.toList V.cut).toArray⟩) ∧ Below w.heap.size w w') at hcon;obtain ⟨v, hv⟩ : ∃ v, v = V.key s.data.toList := ⟨_, rfl⟩;have HV := Lib.hid hv;rw [← hv];unfold V.key at hv
 by_cases h1 : 1 ≤ s.size
 ·by_cases h12 : s.size ≤ 12
  ·rw [hsz, decide_eq_true h1, decide_eq_true h12, Bool.true_and, Bool.true_and] at hv;have ht := V.trim_nil s.data.toList;obtain ⟨r, hr⟩ : ∃ r, r = Lib.trimS s.data.toList V.cut := ⟨_, rfl⟩;rw [← hr] at hcon ht;rw [← hv] at ht;have HC := Lib.hid hcon;clear hcon hr hv HV hsz
   have hrr : (⟨r.toArray⟩ : ByteArray).toList.isEmpty = v := by
    rw [Lib.toList_data];simp only [List.toList_toArray]
    cases v with
    | true => rw [ht.2 rfl]; rfl
    | false => cases r with
      | nil => have := ht.1 rfl; cases this
      | cons a r => rfl
   have HR := Lib.hid hrr;clear ht hrr
   go_enter Tryd.func15, Tryd.ntmps15
   go_wp2_with fail
   refine HC.out.mono ?_;rintro e w1 ⟨rfl, b1⟩;generalize (⟨r.toArray⟩ : ByteArray) = rs at HR
   go_wp2_with fail
   go_ret
   exact ⟨ret_bool HR.out, b1⟩
  ·(have hf : v = false := by rw [hv, hsz, decide_eq_false h12]; simp);have HF := Lib.hid hf;clear hcon hv HV hsz hf
   go_enter Tryd.func15, Tryd.ntmps15
   go_wp2_with fail
   go_ret
   exact ⟨ret_bool HF.out.symm, Below.refl _ _⟩
 ·(have hf : v = false := by rw [hv, hsz, decide_eq_false h1]; simp);have HF := Lib.hid hf;clear hcon hv HV hsz hf
  go_enter Tryd.func15, Tryd.ntmps15
  go_wp2_with fail
  go_ret
  exact ⟨ret_bool HF.out.symm, Below.refl _ _⟩
theorem formed_zero (w : World) :
 Calls Tryd.prog 10 #[.agg #[.int .i64 0, .int .u64 0, .string ⟨#[]⟩]] w fun e w' => e = .returned (.bool true) ∧ Below w.heap.size w w' := by
 go_enter Tryd.func10, Tryd.ntmps10
 go_wp2_with fail
 go_ret
 exact ⟨rfl, (Below.refl _ _).alloc (Nat.le_refl _) _⟩
namespace V
end V
end
section
open Go.RowKit
namespace V
def formed (k : Int) (b : Nat) (t : List UInt8) : Bool :=
 if k = 0 then decide (b = 0 ∧ t = [])
 else if k = 1 then decide (t = [] ∧ ncanon b = b)
 else if k = 2 then decide (b = 0 ∧ t.length ≤ 40) && Lib.validD t
 else false
def val (k : Int) (b : Nat) (t : ByteArray) : Value := .agg #[.int .i64 k, .int .u64 b, .string t]
end V
theorem cell3 (w : World) (u0 u1 u2 : Value) (e : TypeId) : (w.alloc (.cells #[u0, u1, u2] e)).cell? ⟨w.heap.size, 0, none⟩ = some u0 ∧ (w.alloc (.cells #[u0, u1, u2] e)).cell? ⟨w.heap.size, 1, none⟩ = some u1 ∧ (w.alloc (.cells #[u0, u1, u2] e)).cell? ⟨w.heap.size, 2, none⟩ = some u2 := ⟨by simp, by simp, by simp⟩
theorem formed_0 (b : Nat) (t : ByteArray) (w : World) :
 Calls Tryd.prog 10 #[.agg #[.int .i64 0, .int .u64 b, .string t]] w fun e w' => e = .returned (.bool (decide (b = 0 ∧ t.toList = []))) ∧ Below w.heap.size w w' := by
 obtain ⟨p, hp⟩ : ∃ p : Bool, p = decide (b = 0 ∧ t.toList = []) := ⟨_, rfl⟩;rw [← hp];have HP := Lib.hid hp;clear hp
 go_enter Tryd.func10, Tryd.ntmps10
 go_wp2
 all_goals
  go_ret
  refine ⟨ret_bool ?_, (Below.refl _ _).alloc (Nat.le_refl _) _⟩;rw [HP.out];simp [*]
theorem formed_1 (b : Nat) (t : ByteArray) (w : World) (ht : t.toList = []) :
 Calls Tryd.prog 10 #[.agg #[.int .i64 1, .int .u64 b, .string t]] w fun e w' => e = .returned (.bool (decide (V.ncanon b = b))) ∧ Below w.heap.size w w' := by
 obtain ⟨p, hp⟩ : ∃ p : Bool, p = decide (V.ncanon b = b) := ⟨_, rfl⟩;rw [← hp];have HP := Lib.hid hp;have HT := Lib.hid ht;clear hp;have k := (cell3 w (.int .i64 1) (.int .u64 b) (.string t) 24).2
 go_enter Tryd.func10, Tryd.ntmps10
 go_wp2
 go_region_held3 (fun w' => w'.cell? ⟨w.heap.size, 1, none⟩ = some (.int .u64 b) ∧ w'.cell? ⟨w.heap.size, 2, none⟩ = some (.string t)) (exact k) (first | (go_at_call 21; refine (ncanon_any b _).mono ?_; rintro e v1 ⟨rfl, rfl⟩))
 go_wp2
 go_ret
 refine ⟨ret_bool ?_, belowDrewN ((Below.refl _ _).alloc (Nat.le_refl _) _) _⟩;rw [HP.out]
 by_cases h : V.ncanon b = b
 ·simp [h]
 ·(have : ¬ ((V.ncanon b : Int) = (b : Int)) := by omega);simp [h, this]
theorem formed_1' (b : Nat) (t : ByteArray) (w : World) (ht : ¬ t.toList = []) :
 Calls Tryd.prog 10 #[.agg #[.int .i64 1, .int .u64 b, .string t]] w fun e w' => e = .returned (.bool false) ∧ Below w.heap.size w w' := by
 have HT := Lib.hid ht
 go_enter Tryd.func10, Tryd.ntmps10
 go_wp2
 go_quiet (fail)
 go_wp2
 go_ret
 exact ⟨rfl, belowDrewN ((Below.refl _ _).alloc (Nat.le_refl _) _) _⟩
theorem formed_2 (t : ByteArray) (w : World) (hs : t.size ≤ 40) (hT : Tabs w) :
 Calls Tryd.prog 10 #[.agg #[.int .i64 2, .int .u64 0, .string t]] w fun e w' => e = .returned (.bool (Lib.validD t.data.toList)) ∧ Below w.heap.size w w' := by
 obtain ⟨p, hp⟩ : ∃ p : Bool, p = Lib.validD t.data.toList := ⟨_, rfl⟩;rw [← hp];have HP := Lib.hid hp;clear hp;have hT1 := Lib.hid (show Tabs (w.alloc (.cells #[.int .i64 2, .int .u64 0, .string t] 24)) from hT.below ((Below.refl _ _).alloc (Nat.le_refl _) _));clear hT;(have hs' : (t.size : Int) ≤ 40 := by omega)
 go_enter Tryd.func10, Tryd.ntmps10
 go_wp2_with fail
 refine (valid_any t _ (by omega) hT1.out).mono ?_;rw [← HP.out];rintro e v1 ⟨rfl, b1⟩
 go_wp2_with fail
 go_ret
 exact ⟨rfl, ((Below.refl _ _).alloc (Nat.le_refl _) _).trans (b1.mono (by simp))⟩
theorem formed_2l (t : ByteArray) (w : World) (hs : ¬ t.size ≤ 40) :
 Calls Tryd.prog 10 #[.agg #[.int .i64 2, .int .u64 0, .string t]] w fun e w' => e = .returned (.bool false) ∧ Below w.heap.size w w' := by
 have h1 : ¬ (t.size : Int) ≤ 40 := by omega
 go_enter Tryd.func10, Tryd.ntmps10
 go_wp2
 go_ret
 exact ⟨rfl, (Below.refl _ _).alloc (Nat.le_refl _) _⟩
theorem formed_2b (b : Nat) (t : ByteArray) (w : World) (hb : ¬ b = 0) :
 Calls Tryd.prog 10 #[.agg #[.int .i64 2, .int .u64 b, .string t]] w fun e w' => e = .returned (.bool false) ∧ Below w.heap.size w w' := by
 go_enter Tryd.func10, Tryd.ntmps10
 go_wp2
 go_ret
 exact ⟨rfl, (Below.refl _ _).alloc (Nat.le_refl _) _⟩
theorem formed_3 (k : Int) (b : Nat) (t : ByteArray) (w : World) (h0 : ¬ k = 0) (h1 : ¬ k = 1) (h2 : ¬ k = 2) :
 Calls Tryd.prog 10 #[.agg #[.int .i64 k, .int .u64 b, .string t]] w fun e w' => e = .returned (.bool false) ∧ Below w.heap.size w w' := by
 go_enter Tryd.func10, Tryd.ntmps10
 go_wp2
 go_ret
 exact ⟨rfl, (Below.refl _ _).alloc (Nat.le_refl _) _⟩
theorem formed_any (k : Int) (b : Nat) (t : ByteArray) (w : World) (hT : Tabs w) :
 Calls Tryd.prog 10 #[V.val k b t] w fun e w' => e = .returned (.bool (V.formed k b t.data.toList)) ∧ Below w.heap.size w w' := by
 (have hsz : t.data.toList.length = t.size := by rw [Array.length_toList]; rfl);unfold V.formed V.val
 by_cases h0 : k = 0
 ·subst h0;rw [if_pos rfl, ← Lib.toList_data t];exact formed_0 b t w
 ·rw [if_neg h0]
  by_cases h1 : k = 1
  ·subst h1;rw [if_pos rfl, ← Lib.toList_data t]
   by_cases ht : t.toList = []
   ·rw [show decide (t.toList = [] ∧ V.ncanon b = b) = decide (V.ncanon b = b) by simp [ht]];exact formed_1 b t w ht
   ·rw [show decide (t.toList = [] ∧ V.ncanon b = b) = false by simp [ht]];exact formed_1' b t w ht
  ·rw [if_neg h1]
   by_cases h2 : k = 2
   ·subst h2;rw [if_pos rfl, hsz]
    by_cases hb : b = 0
    ·subst hb
     by_cases hs : t.size ≤ 40
     ·rw [show decide (0 = 0 ∧ t.size ≤ 40) = true by simp [hs], Bool.true_and];exact formed_2 t w hs hT
     ·rw [show decide (0 = 0 ∧ t.size ≤ 40) = false by simp [hs], Bool.false_and];exact formed_2l t w hs
    ·rw [show decide (b = 0 ∧ t.size ≤ 40) = false by simp [hb], Bool.false_and];exact formed_2b b t w hb
   ·rw [if_neg h2];exact formed_3 k b t w h0 h1 h2
end
end Go.Proofs.YtimfoimcaapodaaDoor
