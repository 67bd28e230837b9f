import Derived.Test.YtjofjpmhokjhnaaGreatDoorWfM1
import Derived.Test.YtjofjpmhokjhnaaGreatDoorWfM5
import Derived.Test.YtjofjpmhokjhnaaGreatDoorWfM3
import Derived.Test.YtjofjpmhokjhnaaGreatDoorWfM2
import Derived.Lib.OwnKind
import Derived.Test.YtjofjpmhokjhnaaGreatDoorWfM4
set_option linter.unusedSimpArgs false
set_option linter.unusedVariables false
namespace Go.Proofs.YtjofjpmhokjhnaaGreatDoor.F
def wrap (b : List UInt8) : List UInt8 × Nat := if 60000 < b.length then ([], 3) else (C.be b.length 4 ++ C.be (sum b) 4 ++ b, 0)
def unwrap (b : List UInt8) : List UInt8 × Nat × Nat :=
 if b.length < 8 then ([], 0, 4)
 else if 60000 < C.val 0 (b.take 4) then ([], 0, 3)
 else if b.length - 8 < C.val 0 (b.take 4) then ([], 0, 4)
 else if sum ((b.drop 8).take (C.val 0 (b.take 4))) = C.val 0 ((b.drop 4).take 4) then ((b.drop 8).take (C.val 0 (b.take 4)), 8 + C.val 0 (b.take 4), 0)
 else ([], 0, 5)
def allF : Nat → List UInt8 → List (List UInt8) × Nat
 | 0, _ => ([], 0)
 | k + 1, b => if (unwrap b).2.2 = 0 then ((unwrap b).1 :: (allF k (b.drop (unwrap b).2.1)).1, (unwrap b).2.1 + (allF k (b.drop (unwrap b).2.1)).2) else ([], 0)
def all (b : List UInt8) : List (List UInt8) × Nat := allF b.length b
theorem unwrap_ok {b : List UInt8} (h : (unwrap b).2.2 = 0) : ∃ n, 8 + n ≤ b.length ∧ n ≤ 60000 ∧ unwrap b = ((b.drop 8).take n, 8 + n, 0) ∧ C.val 0 (b.take 4) = n ∧ sum ((b.drop 8).take n) = C.val 0 ((b.drop 4).take 4) := by
 unfold unwrap at h ⊢
 split at h
 ·simp at h
 split at h
 ·simp at h
 split at h
 ·simp at h
 split at h
 ·rename_i h1 h2 h3 h4
  exact ⟨_, by omega, by omega, by rw [if_neg h1, if_neg h2, if_neg h3, if_pos h4], rfl, h4⟩
 ·simp at h
theorem unwrap_nil : unwrap [] = ([], 0, 4) := rfl
theorem allF_more (k m : Nat) (b : List UInt8) (hk : b.length ≤ k) (hm : k ≤ m) : allF m b = allF k b := by
 induction k generalizing b m with
 | zero =>
   have : b = [] := List.eq_nil_of_length_eq_zero (by omega)
   subst this
   cases m with
   | zero => rfl
   | succ m => simp [allF, unwrap_nil]
 | succ k ih =>
   cases m with
   | zero => omega
   | succ m =>
     simp only [allF]
     by_cases h : (unwrap b).2.2 = 0
     ·rw [if_pos h, if_pos h]
      obtain ⟨n, h1, _, h2, _⟩ := unwrap_ok h
      have e : allF m (b.drop (unwrap b).2.1) = allF k (b.drop (unwrap b).2.1) := ih m _ (by rw [h2]; simp; omega) (by omega)
      rw [e]
     ·rw [if_neg h, if_neg h]
theorem all_ok {b : List UInt8} (h : (unwrap b).2.2 = 0) : all b = ((unwrap b).1 :: (all (b.drop (unwrap b).2.1)).1, (unwrap b).2.1 + (all (b.drop (unwrap b).2.1)).2) := by
 obtain ⟨n, h1, _, h2, _⟩ := unwrap_ok h
 unfold all
 cases hb : b.length with
 | zero => omega
 | succ k =>
   simp only [allF]
   rw [if_pos h]
   have e := allF_more (b.drop (unwrap b).2.1).length k (b.drop (unwrap b).2.1) (Nat.le_refl _) (by rw [h2]; simp; omega)
   rw [e]
theorem all_err {b : List UInt8} (h : (unwrap b).2.2 ≠ 0) : all b = ([], 0) := by
 unfold all
 cases hb : b.length with
 | zero => rfl
 | succ k => simp only [allF]; rw [if_neg h]
theorem all_nil : all [] = ([], 0) := rfl
theorem all_le (b : List UInt8) : (all b).2 ≤ b.length := by
 generalize hk : b.length = k
 induction k using Nat.strongRecOn generalizing b with
 | ind k ih =>
   by_cases h : (unwrap b).2.2 = 0
   ·rw [all_ok h]
    obtain ⟨n, h1, _, h2, _⟩ := unwrap_ok h
    have := ih (b.drop (unwrap b).2.1).length (by rw [h2]; simp; omega) _ rfl
    rw [h2] at this ⊢
    simp at this ⊢
    omega
   ·rw [all_err h]; exact Nat.zero_le _
theorem all_count (b : List UInt8) : 8 * (all b).1.length ≤ (all b).2 := by
 generalize hk : b.length = k
 induction k using Nat.strongRecOn generalizing b with
 | ind k ih =>
   by_cases h : (unwrap b).2.2 = 0
   ·rw [all_ok h]
    obtain ⟨n, h1, _, h2, _⟩ := unwrap_ok h
    have := ih (b.drop (unwrap b).2.1).length (by rw [h2]; simp; omega) _ rfl
    rw [h2] at this ⊢
    simp at this ⊢
    omega
   ·rw [all_err h]; exact Nat.zero_le _
theorem wrap_len {b : List UInt8} (h : b.length ≤ 60000) : (wrap b).1.length = 8 + b.length := by
 unfold wrap
 rw [if_neg (by omega)]
 simp [C.be_len]; omega
def cat (ls : List (List UInt8)) : List UInt8 := ls.flatMap fun b => (wrap b).1
theorem cat_snoc (ls : List (List UInt8)) (b : List UInt8) : cat (ls ++ [b]) = cat ls ++ (wrap b).1 := by simp [cat]
end Go.Proofs.YtjofjpmhokjhnaaGreatDoor.F
namespace Go.Proofs.YtjofjpmhokjhnaaGreatDoor
set_option maxRecDepth 20000
set_option maxRecDepth 20001
def tls : Nat → Code → Code
 | 0, c => c
 | n + 1, .seq _ y => tls n y
 | _ + 1, c => c
theorem wp_tail {P : Program} {Q : Exit → Act → World → Prop} {a : Act} {w : World} (n : Nat) {c : Code} (h : ∀ K : Act → World → Prop, (∀ a w, (tls n c).wp P Q a w → K a w) → (∀ a w, K a w → (tls n c).wp P Q a w) → c.wp P Q a w) : c.wp P Q a w := h _ (fun _ _ h => h) (fun _ _ h => h)
end Go.Proofs.YtjofjpmhokjhnaaGreatDoor
namespace Go.Proofs.YtjofjpmhokjhnaaGreatDoor
set_option maxRecDepth 20001
theorem wp_tail2 {P : Program} {Q : Exit → Act → World → Prop} {a : Act} {w : World} (n : Nat) {c r d b : Code} (_ : tls n c = .seq (.seq r d) b)
 (h : ∀ K : Act → World → Prop, (∀ a w, (∀ K1 K2 : Act → World → Prop, (∀ a w, b.wp P Q a w → K1 a w) → (∀ a w, d.wp P (Exit.then K1 Q) a w → K2 a w) → r.wp P (Exit.then K2 (Exit.then K1 Q)) a w) → K a w) →
  (∀ a w, K a w → ∀ K1 K2 : Act → World → Prop, (∀ a w, b.wp P Q a w → K1 a w) → (∀ a w, d.wp P (Exit.then K1 Q) a w → K2 a w) → r.wp P (Exit.then K2 (Exit.then K1 Q)) a w) → c.wp P Q a w) : c.wp P Q a w :=
 h (fun a w => ∀ K1 K2 : Act → World → Prop, (∀ a w, b.wp P Q a w → K1 a w) → (∀ a w, d.wp P (Exit.then K1 Q) a w → K2 a w) → r.wp P (Exit.then K2 (Exit.then K1 Q)) a w) (fun _ _ h => h) (fun _ _ h => h)
end Go.Proofs.YtjofjpmhokjhnaaGreatDoor
namespace Go.Proofs.YtjofjpmhokjhnaaGreatDoor
set_option maxRecDepth 20001
open Go.RowKit
theorem F.step_odd (y : Nat) (h : y < 4294967296) (h2 : y % 2 = 1) : bits BinOp.xor IntKind.u32 ((y : Int) / 2) 3988292384 = ((F.step y : Nat) : Int) := by
 have e := u32_xor_nat (y / 2) 3988292384 (by omega) (by decide)
 unfold F.step
 rw [if_pos h2]
 rw [← show ((F.poly : Nat) : Int) = 3988292384 from rfl]
 have e1 : ((y : Int) / 2) = ((y / 2 : Nat) : Int) := by omega
 rw [e1]
 exact e
theorem F.step_even (y : Nat) (h2 : ¬ y % 2 = 1) : ((y : Int) / 2) = ((F.step y : Nat) : Int) := by
 unfold F.step
 rw [if_neg h2]
 omega
theorem F.step_bits (y : Nat) (h : y < 4294967296) : bits BinOp.xor IntKind.u32 ((y : Int) / 2) (bits BinOp.and IntKind.u32 3988292384 (-bits BinOp.and IntKind.u32 (y : Int) 1 % 4294967296)) = ((F.step y : Nat) : Int) := by
 have e1 : bits BinOp.and IntKind.u32 (y : Int) 1 = ((y % 2 : Nat) : Int) := by
  have := u32_and_nat y 1 h (by decide)
  rw [Nat.and_one_is_mod] at this
  exact this
 rw [e1]
 rcases Nat.mod_two_eq_zero_or_one y with h2 | h2
 ·rw [h2]
  have e2 : (-((0 : Nat) : Int)) % 4294967296 = ((0 : Nat) : Int) := by omega
  rw [e2]
  have e3 : bits BinOp.and IntKind.u32 3988292384 ((0 : Nat) : Int) = 0 := by
   have := u32_and_nat 3988292384 0 (by decide) (by decide)
   rw [Nat.and_zero] at this
   exact this
  rw [e3]
  have e4 := u32_xor_nat (y / 2) 0 (by omega) (by decide)
  rw [Nat.xor_zero] at e4
  rw [← F.step_even y (by omega)]
  have e5 : ((y : Int) / 2) = ((y / 2 : Nat) : Int) := by omega
  rw [e5]
  exact e4
 ·rw [h2]
  have e2 : (-((1 : Nat) : Int)) % 4294967296 = ((4294967295 : Nat) : Int) := by omega
  rw [e2]
  have e3 : bits BinOp.and IntKind.u32 3988292384 ((4294967295 : Nat) : Int) = 3988292384 := by
   have := u32_and_nat 3988292384 4294967295 (by decide) (by decide)
   rw [show (3988292384 &&& 4294967295 : Nat) = 3988292384 from by decide] at this
   exact this
  rw [e3]
  exact F.step_odd y h h2
theorem F.flip (t : Nat) (h : t < 4294967296) : bits BinOp.xor IntKind.u32 IntKind.u32.max (t : Int) = ((4294967295 - t : Nat) : Int) := by
 have e := u32_xor_nat 4294967295 t (by decide) h
 have e2 : (4294967295 ^^^ t : Nat) = 4294967295 - t := by
  apply Nat.eq_of_testBit_eq
  intro i
  rw [Nat.testBit_xor, show (4294967295 : Nat) - t = 2 ^ 32 - (t + 1) from by omega, Nat.testBit_two_pow_sub_succ (by omega), show (4294967295 : Nat) = 2 ^ 32 - 1 from rfl, Nat.testBit_two_pow_sub_one]
  by_cases hi : i < 32
  ·simp [hi]
  ·have : t.testBit i = false := Nat.testBit_lt_two_pow (Nat.lt_of_lt_of_le h (Nat.pow_le_pow_right (n := 2) (by omega) (show 32 ≤ i by omega)))
   simp [hi, this]
 rw [e2] at e
 exact e
set_option maxHeartbeats 800000 in
theorem sum_any (A : Option Addr) (c : Nat) (l : List UInt8) (w : World) (B : Nat) (hl : l.length ≤ 1099511627776) (hc : l.length ≤ c) (hr : Rd w B A (bc l)) :
 Calls Tryz.prog 138 #[.slice A l.length c] w fun e w' => e = .returned (.int .u32 (F.sum l : Nat)) ∧ w = w' := by
 obtain ⟨n, hn⟩ : ∃ n, n = l.length := ⟨_, rfl⟩
 have HN := Lib.hid hn
 rw [← hn] at hl hc ⊢
 clear hn
 go_enter Tryz.func138, Tryz.ntmps138
 go_wp2_with fail
 go_loop [3, 8] (fun s i => ∃ (k t : Nat), k ≤ n ∧ i = .int .i64 k ∧ s = .int .u32 (t : Int) ∧ t < 4294967296 ∧ Hid (F.run t (l.drop k) = F.run 4294967295 l)) (fun _ i => n - (intOf i).toNat)
 case atStart => exact ⟨0, 4294967295, Nat.zero_le _, rfl, rfl, by omega, rfl⟩
 case round =>
  obtain ⟨k, t, hk, rfl, rfl, ht, HR⟩ := hrel
  by_cases hlt : k < n
  ·have hk2 : k < (bc l).length := by rw [bc_len, ← HN.out]; exact hlt
   obtain ⟨ab, ao, rfl, _, hca⟩ := hr.at_ hk2
   rw [bc_get] at hca
   have hjo : k < l.length := by rw [← HN.out]; exact hlt
   have HR2 : Hid (F.run (F.upd t l[k]) (l.drop (k + 1)) = F.run 4294967295 l) := by
    show _ = _
    rw [← HR.out, List.drop_eq_getElem_cons hjo]; rfl
   have hby := (l[k]'hjo).toNat_lt
   generalize l[k]'hjo = b at hca HR2 hby
   have hb0 : (0 : Int) ≤ (k : Int) := by omega
   have hb1 : (k : Int) < (n : Int) := by omega
   clear hk2
   go_wp2_with fail
   rw [u32_xor_nat t b.toNat ht (by omega)]
   have hx : t ^^^ b.toNat < 4294967296 := Nat.xor_lt_two_pow (n := 32) ht (by omega)
   unfold F.upd at HR2
   generalize t ^^^ b.toNat = x at hx HR2 ⊢
   clear HR
   go_loop [3, 16] (fun s i => ∃ (j y : Nat), j ≤ 8 ∧ i = .int .i64 j ∧ s = .int .u32 (y : Int) ∧ y < 4294967296 ∧ Hid (F.steps (8 - j) y = F.steps 8 x)) (fun _ i => 8 - (intOf i).toNat)
   case atStart => exact ⟨0, x, by omega, rfl, rfl, hx, rfl⟩
   case round =>
    obtain ⟨j, y, hj, rfl, rfl, hy, HS⟩ := hrel
    by_cases hj8 : j < 8
    ·have HS2 : Hid (F.steps (8 - (j + 1)) (F.step y) = F.steps 8 x) := by
      show _ = _
      rw [← HS.out, show 8 - j = (8 - (j + 1)) + 1 from by omega]; rfl
     have hy2 := F.step_lt hy
     have HB := Lib.hid (F.step_bits y hy)
     clear HS
     go_wp2_with fail
     refine ⟨⟨j + 1, F.step y, by omega, by go_num, by rw [HB.out], hy2, HS2⟩, by simp [intOf]; omega⟩
    ·obtain rfl : j = 8 := by omega
     have hyx : y = F.steps 8 x := by have := HS.out; simpa [F.steps] using this
     clear HS
     rw [← hyx] at HR2
     clear hyx
     go_wp2_with fail
     exact ⟨⟨k + 1, y, by omega, by go_num, rfl, hy, HR2⟩, by simp [intOf]; omega⟩
  ·obtain rfl : k = n := by omega
   have hfin : F.sum l = 4294967295 - t := by
    have := HR.out
    rw [List.drop_of_length_le (by rw [← HN.out]; omega)] at this
    unfold F.sum; rw [← this]; rfl
   have HF := Lib.hid hfin
   clear hfin HR
   go_wp2_with fail
   go_ret
   refine ⟨ret_int ?_, rfl⟩
   rw [HF.out]
   exact F.flip t ht
end Go.Proofs.YtjofjpmhokjhnaaGreatDoor
namespace Go.Proofs.YtjofjpmhokjhnaaGreatDoor
set_option maxRecDepth 20001
open Go.RowKit
def MadeE (w : World) (p : List UInt8 × Nat) (e : Ending) (w' : World) : Prop :=
 ∃ v, e = .returned (.tuple #[v, .int .i64 (p.2 : Int)]) ∧ w'.ownsRow w.heap.size 5 1 v p.1.length (bc p.1) ∧ Below w.heap.size w w'
theorem wrap_four (x : Nat) (l : List UInt8) : C.put l x 4 = l ++ C.be x 4 := rfl
theorem wrap_eq (l : List UInt8) (h : ¬ 60000 < l.length) : F.wrap l = (C.put (C.be l.length 4) (F.sum l) 4 ++ l, 0) := by
 unfold F.wrap; rw [if_neg h, wrap_four]
set_option maxHeartbeats 800000 in
theorem wrap_any (A : Option Addr) (c : Nat) (l : List UInt8) (w : World) (B : Nat) (hl : l.length ≤ 2147483648) (hc : l.length ≤ c) (hA : A = none → l = [] ∧ c = 0) (hr : Rd w B A (bc l)) (hB : B ≤ w.heap.size) :
 Calls Tryz.prog 119 #[.slice A l.length c] w (MadeE w (F.wrap l)) := by
 obtain ⟨i0, hi, hz0, hz1, hz2⟩ := info_parts info_u8
 have hA' : A = none → c = 0 := fun h => (hA h).2
 by_cases h6 : 60000 < l.length
 ·have e : F.wrap l = ([], 3) := by unfold F.wrap; rw [if_pos h6]
  rw [e]
  clear e
  generalize l.length = n at *
  go_enter Tryz.func119, Tryz.ntmps119
  go_wp2_with fail
  go_ret2
  exact ⟨_, rfl, World.ownsRow_nil _ _ _ _, Below.refl _ _⟩
 ·have E := Lib.hid (wrap_eq l h6)
  rw [E.out]
  have hs := F.sum_lt l
  obtain ⟨n, hn⟩ : ∃ n, n = l.length := ⟨_, rfl⟩
  have HN := Lib.hid hn
  rw [← hn] at hl hc h6 ⊢
  clear E hn
  go_enter Tryz.func119, Tryz.ntmps119
  go_wp2_with fail
  refine (put_nil n 4 w (by omega)).mono ?_
  rintro e w1 ⟨v1, rfl, own1, b1⟩
  obtain ⟨A1, c1, rfl, hc1, hA1, hm1⟩ := ownShape own1
  go_wp2_with fail
  rw [HN.out]
  refine (sum_any A c l _ B (by rw [← HN.out]; omega) (by rw [← HN.out]; exact hc) (hr.belowM b1 hB)).mono ?_
  rintro e w' ⟨rfl, rfl⟩
  rw [← HN.out]
  go_wp2_with fail
  refine (put_any A1 c1 (C.be n (C.clamp8 4)) (F.sum l) 4 _ _ (by rw [C.be_len]; decide) (fun h => ⟨List.eq_nil_of_length_eq_zero (hA1 h).1, (hA1 h).2⟩) (Rd.ofOwn own1) (Nat.le_refl _) (by omega)).mono ?_
  rintro e w2 ⟨v2, rfl, own2, b2⟩
  have b2' := b1.trans (b2.mono b1.size)
  have len2 : (C.put (C.be n (C.clamp8 4)) (F.sum l) 4).length = 8 := by unfold C.put; rw [List.length_append, C.be_len, C.be_len]; decide
  have own2 := ownMore own2 b1.size
  have L2 := Lib.hid len2
  clear len2
  go_wp2_with (at_builtin; refine wpList_append_rd _ rfl _ _ 34 rfl w.heap.size 5 i0 (.int .u8 0) 1 Tryz.underlying34 hi hz0 hz1 hz2 rfl _ _ _ rfl own2 B A n c (bc l) rfl ?c1 hA' (hr.belowM b2' hB) (bc_one l) ?c3 ?c4 ?c5 ?_)
  case c1 => rw [bc_len, HN.out]
  case c3 => rw [L2.out]; unfold maxLen; omega
  case c4 => rw [L2.out]; omega
  case c5 => exact b2'.size
  intro v' w3 own3 g3
  have R := appM own2 b2' own3 (by rw [HN.out]) g3
  clear own3 g3 own2 b2' b2
  go_wp2
  go_ret2
  exact ⟨v', rfl, R.1, R.2⟩
end Go.Proofs.YtjofjpmhokjhnaaGreatDoor
namespace Go.Proofs.YtjofjpmhokjhnaaGreatDoor
set_option maxRecDepth 20001
open Go.RowKit
def flat {α : Type} (enc : α → List Value) (l : List α) : List Value := l.flatMap enc
section
variable {α : Type} {enc : α → List Value} {sz : Nat}
theorem flat_app (l m : List α) : flat enc (l ++ m) = flat enc l ++ flat enc m := by simp [flat]
theorem flat_cons (a : α) (l : List α) : flat enc (a :: l) = enc a ++ flat enc l := by simp [flat]
theorem flat_len2 (hs : ∀ a, (enc a).length = sz) (l : List α) : (flat enc l).length = l.length * sz := by
 induction l with
 | nil => simp [flat]
 | cons a t ih => rw [flat_cons, List.length_append, hs, ih, List.length_cons, Nat.add_mul]; omega
theorem list_split {l : List α} {k : Nat} {x : α} (h : l[k]? = some x) : l = l.take k ++ x :: l.drop (k + 1) ∧ k < l.length := by
 obtain ⟨hk, rfl⟩ := List.getElem?_eq_some_iff.1 h
 exact ⟨by rw [List.getElem_cons_drop, List.take_append_drop], hk⟩
theorem flat_split (hs : ∀ a, (enc a).length = sz) {l : List α} {k : Nat} {x : α} (h : l[k]? = some x) :
 flat enc l = flat enc (l.take k) ++ (enc x ++ flat enc (l.drop (k + 1))) ∧ (flat enc (l.take k)).length = k * sz := by
 obtain ⟨e, hk⟩ := list_split h
 refine ⟨?_, by rw [flat_len2 hs, List.length_take, Nat.min_eq_left (by omega)]⟩
 conv => lhs; rw [e]
 rw [flat_app, flat_cons]
theorem flat_at2 (hs : ∀ a, (enc a).length = sz) {l : List α} {k : Nat} {x : α} (h : l[k]? = some x) (j : Nat) (v : Value) (hv : (enc x)[j]? = some v) : (flat enc l)[k * sz + j]? = some v := by
 obtain ⟨e, hl⟩ := flat_split hs h
 have hj : j < (enc x).length := (List.getElem?_eq_some_iff.1 hv).1
 rw [e, List.getElem?_append_right (by omega), hl, show k * sz + j - k * sz = j by omega, List.getElem?_append_left hj]
 exact hv
end
theorem flatOwn {α : Type} {enc : α → List Value} {sz : Nat} (hs : ∀ a, (enc a).length = sz) (hpos : 0 < sz) {w : World} {base e : Nat} {v : Value} {l : List α} (h : w.ownsRow base e sz v l.length (flat enc l)) :
 ∃ (A : Option Addr) (c : Nat), v = .slice A l.length c ∧ l.length ≤ c ∧ RowsAt w w.heap.size A sz (l.map enc) ∧ (l.length ≠ 0 → ∃ g, A = some ⟨g, 0, none⟩ ∧ base ≤ g ∧ g < w.heap.size) := by
 rcases h.2 with ⟨rfl, h0⟩ | ⟨g, cap, cur, rfl, hb, hg, hc, hm, _⟩
 ·have : l = [] := List.length_eq_zero_iff.1 h0
  subst this
  exact ⟨none, 0, rfl, Nat.le_refl _, RowsAt.nil, fun h => absurd rfl h⟩
 ·have hgs : g < w.heap.size := (Array.getElem?_eq_some_iff.1 hg).1
  refine ⟨some ⟨g, 0, none⟩, cap, rfl, hc, fun i cs hi => ?_, fun _ => ⟨g, rfl, hb, hgs⟩⟩
  rw [List.getElem?_map] at hi
  cases hx : l[i]? with
  | none => rw [hx] at hi; simp at hi
  | some x =>
    rw [hx] at hi
    simp at hi
    subst hi
    refine ⟨g, 0, rfl, hgs, fun j u hu => ?_⟩
    have hc := h.cells (g := g) rfl (i * sz + j) u (flat_at2 hs hx j u hu)
    rw [Addr.add_mid] at hc
    simpa [Nat.add_assoc] using hc
end Go.Proofs.YtjofjpmhokjhnaaGreatDoor
namespace Go.Proofs.YtjofjpmhokjhnaaGreatDoor
set_option maxRecDepth 20001
open Go.RowKit
def MadeNE (w : World) (p : List UInt8 × Nat × Nat) (e : Ending) (w' : World) : Prop :=
 ∃ v, e = .returned (.tuple #[v, .int .i64 (p.2.1 : Int), .int .i64 (p.2.2 : Int)]) ∧ w'.ownsRow w.heap.size 5 1 v p.1.length (bc p.1) ∧ Below w.heap.size w w'
theorem ftake4 (l : List UInt8) (h : 4 ≤ l.length) : C.take 4 (l, false) = (C.val 0 (l.take 4), (l.drop 4, false)) := by
 unfold C.take C.some_
 rw [if_neg (by omega), if_neg (by simp; omega)]
 rfl
theorem take4_short (l : List UInt8) (h : l.length < 4) : C.take 4 (l, false) = (0, (l, true)) := by
 unfold C.take C.some_
 rw [if_neg (by omega), if_pos (by right; exact h)]
 rfl
theorem take4_fail (l : List UInt8) : C.take 4 (l, true) = (0, (l, true)) := by
 unfold C.take C.some_
 rw [if_neg (by omega), if_pos (by left; rfl)]
 rfl
theorem val4 (l : List UInt8) (h : l.length ≤ 4) : C.val 0 l < 4294967296 := by
 have h1 := C.val_lt l
 have h2 := Nat.pow_le_pow_right (n := 256) (by omega) h
 omega
set_option maxHeartbeats 800000 in
theorem unwrap_any (A : Option Addr) (c : Nat) (l : List UInt8) (w : World) (B : Nat) (hl : l.length ≤ 2147483648) (hc : l.length ≤ c) (hm : c ≤ maxLen) (hA : A = none → l = [] ∧ c = 0) (hr : Rd w B A (bc l)) (hB : B ≤ w.heap.size) :
 Calls Tryz.prog 118 #[.slice A l.length c] w (MadeNE w (F.unwrap l)) := by
 by_cases h8 : l.length < 8
 ·have e : F.unwrap l = ([], 0, 4) := by unfold F.unwrap; rw [if_pos h8]
  rw [e]
  obtain ⟨x, s1, hs1, m, hs2⟩ : ∃ x s1, C.take 4 (l, false) = (x, s1) ∧ ∃ m, C.take 4 s1 = (0, (m, true)) := by
   by_cases h4 : l.length < 4
   ·exact ⟨_, _, take4_short l h4, _, take4_fail l⟩
   ·exact ⟨_, _, ftake4 l (by omega), _, take4_short _ (by simp; omega)⟩
  have hx : x < 4294967296 := by
   have := congrArg Prod.fst hs1
   simp only at this
   rw [← this]
   unfold C.take
   rw [if_neg (by omega)]
   exact val4 _ (by unfold C.some_; split <;> simp <;> omega)
  have HN := Lib.hid (new_any A c l w B hc hm hA hr hB)
  have HS1 := Lib.hid hs1
  have HS2 := Lib.hid hs2
  clear hs1 hs2 e
  generalize l.length = n at *
  go_enter Tryz.func118, Tryz.ntmps118
  go_wp2_with fail
  refine HN.out.mono ?_
  rintro e w1 ⟨rfl, R1, b1⟩
  go_wp2_with fail
  refine (take_any B w.heap.size 4 (l, false) _ R1).mono ?_
  rw [HS1.out]
  rintro e w2 ⟨rfl, R2, g2⟩
  have b2 := b1.grown g2 b1.size (fun q hq => by injection hq with hq; omega)
  go_wp2_with fail
  refine (take_any B w.heap.size 4 s1 _ R2).mono ?_
  rw [HS2.out]
  rintro e w3 ⟨rfl, R3, g3⟩
  have b3 := b2.grown g3 b2.size (fun q hq => by injection hq with hq; omega)
  go_wp2_with fail
  refine (ok_any B w.heap.size _ _ R3).mono ?_
  rintro e w' ⟨rfl, rfl⟩
  go_wp2_with fail
  go_ret3
  exact ⟨_, rfl, World.ownsRow_nil _ _ _ _, b3⟩
 ·obtain ⟨n, hn⟩ : ∃ n, n = C.val 0 (l.take 4) := ⟨_, rfl⟩
  obtain ⟨q, hq⟩ : ∃ q, q = C.val 0 ((l.drop 4).take 4) := ⟨_, rfl⟩
  have hn4 : n < 4294967296 := by rw [hn]; exact val4 _ (by simp; omega)
  have hq4 : q < 4294967296 := by rw [hq]; exact val4 _ (by simp; omega)
  have e1 : C.take 4 (l, false) = (n, (l.drop 4, false)) := by rw [hn]; exact ftake4 l (by omega)
  have e2 : C.take 4 (l.drop 4, false) = (q, (l.drop 8, false)) := by rw [hq]; have := ftake4 (l.drop 4) (by simp; omega); simpa using this
  have e3 : C.left (l.drop 8, false) = l.length - 8 := by unfold C.left; simp
  have hu : F.unwrap l = if 60000 < n then ([], 0, 3) else if l.length - 8 < n then ([], 0, 4) else if F.sum ((l.drop 8).take n) = q then ((l.drop 8).take n, 8 + n, 0) else ([], 0, 5) := by
   unfold F.unwrap; rw [if_neg h8, ← hn, ← hq]
  have HN := Lib.hid (new_any A c l w B hc hm hA hr hB)
  have HS1 := Lib.hid e1
  have HS2 := Lib.hid e2
  have HL := Lib.hid e3
  rw [hu]
  have h8' : 8 ≤ l.length := by omega
  clear hn hq e1 e2 e3 hu h8
  by_cases h6 : 60000 < n
  ·rw [if_pos h6]
   generalize l.length = m at *
   go_enter Tryz.func118, Tryz.ntmps118
   go_wp2_with fail
   refine HN.out.mono ?_
   rintro e w1 ⟨rfl, R1, b1⟩
   go_wp2_with fail
   refine (take_any B w.heap.size 4 (l, false) _ R1).mono ?_
   rw [HS1.out]
   rintro e w2 ⟨rfl, R2, g2⟩
   have b2 := b1.grown g2 b1.size (fun q hq => by injection hq with hq; omega)
   go_wp2_with fail
   refine (take_any B w.heap.size 4 (l.drop 4, false) _ R2).mono ?_
   rw [HS2.out]
   rintro e w3 ⟨rfl, R3, g3⟩
   have b3 := b2.grown g3 b2.size (fun q hq => by injection hq with hq; omega)
   go_wp2_with fail
   refine (ok_any B w.heap.size _ _ R3).mono ?_
   rintro e w' ⟨rfl, rfl⟩
   go_wp2_with fail
   go_ret3
   exact ⟨_, rfl, World.ownsRow_nil _ _ _ _, b3⟩
  ·rw [if_neg h6]
   by_cases hs : l.length - 8 < n
   ·rw [if_pos hs]
    generalize l.length = m at *
    have hs2 : (m : Int) - 8 < (n : Int) := by omega
    go_enter Tryz.func118, Tryz.ntmps118
    go_wp2_with fail
    refine HN.out.mono ?_
    rintro e w1 ⟨rfl, R1, b1⟩
    go_wp2_with fail
    refine (take_any B w.heap.size 4 (l, false) _ R1).mono ?_
    rw [HS1.out]
    rintro e w2 ⟨rfl, R2, g2⟩
    have b2 := b1.grown g2 b1.size (fun q hq => by injection hq with hq; omega)
    go_wp2_with fail
    refine (take_any B w.heap.size 4 (l.drop 4, false) _ R2).mono ?_
    rw [HS2.out]
    rintro e w3 ⟨rfl, R3, g3⟩
    have b3 := b2.grown g3 b2.size (fun q hq => by injection hq with hq; omega)
    go_wp2_with fail
    refine (ok_any B w.heap.size _ _ R3).mono ?_
    rintro e w' ⟨rfl, rfl⟩
    go_wp2_with fail
    refine (left_any B w.heap.size _ _ R3).mono ?_
    rw [HL.out]
    rintro e w' ⟨rfl, rfl⟩
    go_wp2_with fail
    go_ret3
    exact ⟨_, rfl, World.ownsRow_nil _ _ _ _, b3⟩
   ·rw [if_neg hs]
    obtain ⟨bd, hbd⟩ : ∃ bd, bd = (l.drop 8).take n := ⟨_, rfl⟩
    have hbl : bd.length = n := by rw [hbd]; simp; omega
    have hrb : Rd w B (if c = 8 then A else A.map (·.add 8)) (bc bd) := by
     have := (hr.cut (k := 8) (cap := c) (by rw [bc_len]; exact hc)).take n
     rwa [bc_drop, bc_take, ← hbd] at this
    rw [← hbd]
    have hfit : 8 + n ≤ l.length := by omega
    obtain ⟨b, off, rfl, hx⟩ := hr 0 _ (List.getElem?_eq_getElem (show 0 < (bc l).length by rw [bc_len]; omega))
    clear hx
    have HBL := Lib.hid hbl
    obtain ⟨p, hp⟩ : ∃ p, p = (if F.sum bd = q then (bd, 8 + n, 0) else (([] : List UInt8), 0, 5)) := ⟨_, rfl⟩
    rw [← hp]
    have HP := Lib.hid hp
    have hs2 : ¬ (l.length : Int) - 8 < (n : Int) := by omega
    clear hbd hbl hs hp hA
    generalize l.length = m at *
    by_cases hcn : c = 8
    ·subst hcn
     obtain rfl : m = 8 := by omega
     obtain rfl : n = 0 := by omega
     rw [if_pos rfl] at hrb
     go_enter Tryz.func118, Tryz.ntmps118
     go_wp2_with fail
     refine HN.out.mono ?_
     rintro e w1 ⟨rfl, R1, b1⟩
     go_wp2_with fail
     refine (take_any B w.heap.size 4 (l, false) _ R1).mono ?_
     rw [HS1.out]
     rintro e w2 ⟨rfl, R2, g2⟩
     have b2 := b1.grown g2 b1.size (fun q hq => by injection hq with hq; omega)
     go_wp2_with fail
     refine (take_any B w.heap.size 4 (l.drop 4, false) _ R2).mono ?_
     rw [HS2.out]
     rintro e w3 ⟨rfl, R3, g3⟩
     have b3 := b2.grown g3 b2.size (fun q hq => by injection hq with hq; omega)
     go_wp2_with fail
     refine (ok_any B w.heap.size _ _ R3).mono ?_
     rintro e w' ⟨rfl, rfl⟩
     go_wp2_with fail
     refine (left_any B w.heap.size _ _ R3).mono ?_
     rw [HL.out]
     rintro e w' ⟨rfl, rfl⟩
     go_wp2_with fail
     rw [show (0 : Nat) = bd.length from HBL.out.symm]
     refine (clone_any (some ⟨b, off, none⟩) _ bd w3 B (by rw [HBL.out]; omega) (fun h => by cases h) (hrb.belowM b3 hB) (Nat.le_trans hB b3.size)).mono ?_
     rintro e w4 ⟨v4, rfl, own4, b4⟩
     have b4' := b3.trans (b4.mono b3.size)
     obtain ⟨A4, c4, rfl, hc4, _, _⟩ := ownShape own4
     go_wp2_with fail
     refine (sum_any A4 c4 bd w4 _ (by rw [HBL.out]; omega) hc4 (Rd.ofOwn own4)).mono ?_
     rintro e w' ⟨rfl, rfl⟩
     rw [HBL.out]
     by_cases hsum : F.sum bd = q
     ·have hp2 : p = (bd, 8 + bd.length, 0) := by rw [HP.out, if_pos hsum, HBL.out]
      have HP2 := Lib.hid hp2
      rw [hsum]
      clear hsum HP hp2
      go_wp2_with fail
      go_ret3
      rw [HP2.out]
      exact ⟨.slice A4 bd.length c4, by simp [HBL.out], ownMore own4 b3.size, b4'⟩
     ·have hne : ((F.sum bd : Int) != (q : Int)) = true := by simp; omega
      have hp2 : p = ([], 0, 5) := by rw [HP.out, if_neg hsum]
      have HP2 := Lib.hid hp2
      clear hsum HP hp2
      go_wp2_with fail
      go_ret3
      rw [HP2.out]
      exact ⟨_, rfl, World.ownsRow_nil _ _ _ _, b4'⟩
    ·rw [if_neg hcn] at hrb
     have hrb : Rd w B (some ⟨b, off + 8, none⟩) (bc bd) := hrb
     go_enter Tryz.func118, Tryz.ntmps118
     go_wp2_with fail
     refine HN.out.mono ?_
     rintro e w1 ⟨rfl, R1, b1⟩
     go_wp2_with fail
     refine (take_any B w.heap.size 4 (l, false) _ R1).mono ?_
     rw [HS1.out]
     rintro e w2 ⟨rfl, R2, g2⟩
     have b2 := b1.grown g2 b1.size (fun q hq => by injection hq with hq; omega)
     go_wp2_with fail
     refine (take_any B w.heap.size 4 (l.drop 4, false) _ R2).mono ?_
     rw [HS2.out]
     rintro e w3 ⟨rfl, R3, g3⟩
     have b3 := b2.grown g3 b2.size (fun q hq => by injection hq with hq; omega)
     go_wp2_with fail
     refine (ok_any B w.heap.size _ _ R3).mono ?_
     rintro e w' ⟨rfl, rfl⟩
     go_wp2_with fail
     refine (left_any B w.heap.size _ _ R3).mono ?_
     rw [HL.out]
     rintro e w' ⟨rfl, rfl⟩
     go_wp2_with fail
     rw [← HBL.out]
     refine (clone_any (some ⟨b, off + 8, none⟩) (c - 8) bd w3 B (by rw [HBL.out]; omega) (fun h => by cases h) (hrb.belowM b3 hB) (Nat.le_trans hB b3.size)).mono ?_
     rintro e w4 ⟨v4, rfl, own4, b4⟩
     have b4' := b3.trans (b4.mono b3.size)
     obtain ⟨A4, c4, rfl, hc4, _, _⟩ := ownShape own4
     go_wp2_with fail
     refine (sum_any A4 c4 bd w4 _ (by rw [HBL.out]; omega) hc4 (Rd.ofOwn own4)).mono ?_
     rintro e w' ⟨rfl, rfl⟩
     rw [HBL.out]
     by_cases hsum : F.sum bd = q
     ·have hp2 : p = (bd, 8 + bd.length, 0) := by rw [HP.out, if_pos hsum, HBL.out]
      have HP2 := Lib.hid hp2
      rw [hsum]
      clear hsum HP hp2
      go_wp2_with fail
      go_ret3
      rw [HP2.out]
      exact ⟨.slice A4 bd.length c4, by simp [HBL.out], ownMore own4 b3.size, b4'⟩
     ·have hne : ((F.sum bd : Int) != (q : Int)) = true := by simp; omega
      have hp2 : p = ([], 0, 5) := by rw [HP.out, if_neg hsum]
      have HP2 := Lib.hid hp2
      clear hsum HP hp2
      go_wp2_with fail
      go_ret3
      rw [HP2.out]
      exact ⟨_, rfl, World.ownsRow_nil _ _ _ _, b4'⟩
end Go.Proofs.YtjofjpmhokjhnaaGreatDoor
namespace Go.Proofs.YtjofjpmhokjhnaaGreatDoor
set_option maxRecDepth 20001
open Go.RowKit
theorem info_sl : (Tryz.prog.info? 34).map (fun i => (i.zero, i.size, i.bytes)) = some (some (.slice none 0 0), 1, 24) := by kernel_rfl
def Owns (w : World) (base : Nat) (vs : List Value) (ls : List (List UInt8)) : Prop :=
 vs.length = ls.length ∧ ∀ (i : Nat) (v : Value) (l : List UInt8), vs[i]? = some v → ls[i]? = some l → w.ownsRow base 5 1 v l.length (bc l)
section
variable {w w' : World} {base B : Nat} {vs : List Value} {ls : List (List UInt8)}
theorem Owns.nil : Owns w base [] [] := ⟨rfl, fun i v l h => by simp at h⟩
theorem belowGrown (hb : Below w.heap.size w w') : w.grownBy w' none := ⟨hb.os, hb.tape, hb.output, hb.size, fun k hk _ => hb.block k hk⟩
theorem ownKept {e n : Nat} {v : Value} {xs : List Value} (h : w.ownsRow base e 1 v n xs) (hb : Below w.heap.size w w') : w'.ownsRow base e 1 v n xs :=
 h.kept (belowGrown hb) (by cases hv : v.ownBlock with
  | none => exact .inl rfl
  | some g => exact .inr (by simp))
theorem Owns.kept (h : Owns w base vs ls) (hb : Below w.heap.size w w') : Owns w' base vs ls := ⟨h.1, fun i v l h1 h2 => ownKept (h.2 i v l h1 h2) hb⟩
theorem Owns.grown {u : Value} {n e base' : Nat} {xs : List Value} (h : Owns w base vs ls) (hu : w.ownsRow base' e 1 u n xs) (hne : 5 ≠ e) (hg : w.grownBy w' u.ownBlock) : Owns w' base vs ls :=
 ⟨h.1, fun i v l h1 h2 => (h.2 i v l h1 h2).kept hg (own_ne hu (h.2 i v l h1 h2) hne)⟩
theorem Owns.snoc {v : Value} {l : List UInt8} (h : Owns w base vs ls) (hv : w.ownsRow base 5 1 v l.length (bc l)) : Owns w base (vs ++ [v]) (ls ++ [l]) := by
 refine ⟨by simp [h.1], fun i u m h1 h2 => ?_⟩
 rw [List.getElem?_append] at h1 h2
 rw [h.1] at h1
 split at h1
 ·rename_i hi
  rw [if_pos hi] at h2
  exact h.2 i u m h1 h2
 ·rename_i hi
  rw [if_neg hi] at h2
  have : i - ls.length = 0 := by
   have := (List.getElem?_eq_some_iff.1 h1).1
   simpa using this
  rw [this] at h1 h2
  simp at h1 h2
  subst h1; subst h2
  exact hv
theorem Owns.alloc (h : Owns w base vs ls) (o : Obj) : Owns (w.alloc o) base vs ls := h.kept ((Below.refl _ _).alloc (Nat.le_refl _) _)
theorem Owns.reads (h : Owns w base vs ls) : SlBs w w.heap.size vs ls := ⟨h.1, fun i v l h1 h2 => SlF.ofOwn (h.2 i v l h1 h2)⟩
end
def MadeLs (w : World) (p : List (List UInt8) × Nat) (e : Ending) (w' : World) : Prop :=
 ∃ v vs, e = .returned (.tuple #[v, .int .i64 (p.2 : Int)]) ∧ w'.ownsRow w.heap.size 34 1 v p.1.length vs ∧ Owns w' w.heap.size vs p.1 ∧ Below w.heap.size w w'
theorem Rd.from {w : World} {B : Nat} {A : Option Addr} {c : Nat} {l : List UInt8} (hr : Rd w B A (bc l)) (hc : l.length ≤ c) (k : Nat) : (c = k → Rd w B A (bc (l.drop k))) ∧ (¬ c = k → Rd w B (A.map (·.add k)) (bc (l.drop k))) := by
 have := hr.cut (k := k) (cap := c) (by rw [bc_len]; exact hc)
 rw [bc_drop] at this
 exact ⟨fun h => by rwa [if_pos h] at this, fun h => by rwa [if_neg h] at this⟩
theorem F.all_step {l : List UInt8} {a : Nat} {ls : List (List UInt8)} (ha : a ≤ l.length) (h : F.all l = (ls ++ (F.all (l.drop a)).1, a + (F.all (l.drop a)).2)) (h0 : (F.unwrap (l.drop a)).2.2 = 0) :
 F.all l = ((ls ++ [(F.unwrap (l.drop a)).1]) ++ (F.all (l.drop (a + (F.unwrap (l.drop a)).2.1))).1, (a + (F.unwrap (l.drop a)).2.1) + (F.all (l.drop (a + (F.unwrap (l.drop a)).2.1))).2) := by
 rw [h, F.all_ok h0, List.drop_drop]
 simp [Nat.add_assoc]
theorem F.all_end {l : List UInt8} {a : Nat} {ls : List (List UInt8)} (h : F.all l = (ls ++ (F.all (l.drop a)).1, a + (F.all (l.drop a)).2)) (h0 : (F.unwrap (l.drop a)).2.2 ≠ 0) : F.all l = (ls, a) := by
 rw [h, F.all_err h0]; simp
theorem F.err_le (b : List UInt8) : (F.unwrap b).2.2 ≤ 5 := by
 unfold F.unwrap
 split
 ·simp
 split
 ·simp
 split
 ·simp
 split <;> simp
set_option maxHeartbeats 1600000 in
theorem all_any (A : Option Addr) (c : Nat) (l : List UInt8) (w : World) (B : Nat) (hl : l.length ≤ 2147483648) (hc : l.length ≤ c) (hm : c ≤ maxLen) (hA : A = none → l = [] ∧ c = 0) (hr : Rd w B A (bc l)) (hB : B ≤ w.heap.size) :
 Calls Tryz.prog 82 #[.slice A l.length c] w (MadeLs w (F.all l)) := by
 obtain ⟨i0, hi, hz0, hz1, hz2⟩ := info_parts info_sl
 obtain ⟨n, hn⟩ : ∃ n, n = l.length := ⟨_, rfl⟩
 have HN := Lib.hid hn
 have HF := Lib.hid (fun w' b => hr.belowM (w' := w') b hB)
 obtain ⟨p, hp⟩ : ∃ p, p = F.all l := ⟨_, rfl⟩
 have HP := Lib.hid hp
 have HA := Lib.hid hA
 rw [← hp]
 rw [← hn] at hl hc ⊢
 clear hn hp hA
 have hm' := hm
 unfold maxLen at hm
 go_enter Tryz.func82, Tryz.ntmps82
 go_wp2_with fail
 go_loopw [4, 5] (fun v i wr => ∃ (at_ : Nat) (ls : List (List UInt8)) (vs : List Value), at_ ≤ n ∧ i = .int .i64 (at_ : Int) ∧ wr.ownsRow w.heap.size 34 1 v ls.length vs ∧ Owns wr w.heap.size vs ls ∧ 8 * ls.length ≤ at_ ∧ Hid (p = (ls ++ (F.all (l.drop at_)).1, at_ + (F.all (l.drop at_)).2)) ∧ Below w.heap.size w wr) (fun _ i _ => n - (intOf i).toNat)
 case atStart => exact ⟨0, [], [], Nat.zero_le _, rfl, World.ownsRow_nil _ _ _ _, Owns.nil, by simp, by show _ = _; rw [HP.out]; simp, Below.refl _ _⟩
 case round =>
  obtain ⟨at_, ls, vs, hat, rfl, own, hO, hcnt, HS, bel⟩ := hrel
  have hdl : (l.drop at_).length = n - at_ := by rw [List.length_drop, ← HN.out]
  have HDL := Lib.hid hdl
  have HRf := Lib.hid (Rd.from (w := wr) (HF.out wr bel) (by rw [← HN.out]; exact hc) at_)
  have HX : Hid (∀ A' c', l.length - at_ ≤ c' → c' ≤ maxLen → (A' = none → l.drop at_ = [] ∧ c' = 0) → Rd wr B A' (bc (l.drop at_)) → Calls Tryz.prog 118 #[.slice A' (n - at_) c'] wr (MadeNE wr (F.unwrap (l.drop at_)))) := by
   intro A' c' h1 h2 h3 h4
   have := unwrap_any A' c' (l.drop at_) wr B (by rw [hdl]; omega) (by rw [hdl, HN.out]; exact h1) h2 h3 h4 (Nat.le_trans hB bel.size)
   rwa [hdl] at this
  clear hdl
  by_cases hca : c = at_
  ·have hat' : n - at_ ≤ 0 := by omega
   have hnil : l.drop at_ = [] := List.eq_nil_of_length_eq_zero (by rw [HDL.out]; omega)
   have hfin : p = (ls, at_) := by rw [HP.out]; rw [HP.out] at HS; exact F.all_end HS.out (by rw [hnil]; decide)
   have HFIN := Lib.hid hfin
   have HU : Hid (F.unwrap (l.drop at_) = ([], 0, 4)) := by show _ = _; rw [hnil]; rfl
   clear hfin hnil HS
   go_wp2_with fail
   refine (HX.out _ _ (by rw [← HN.out]; exact hat') (Nat.zero_le _) (fun h => ⟨List.eq_nil_of_length_eq_zero (by rw [HDL.out]; omega), rfl⟩) (HRf.out.1 hca)).mono ?_
   rw [HU.out]
   rintro e w1 ⟨bv, rfl, bown, bb⟩
   go_wp2_with fail
   go_ret2
   rw [HFIN.out]
   exact ⟨_, vs, rfl, ownKept own bb, hO.kept bb, bel.trans (bb.mono bel.size)⟩
  ·obtain ⟨q, hq⟩ : ∃ q, q = F.unwrap (l.drop at_) := ⟨_, rfl⟩
   have hq3 : q.2.2 ≤ 5 := by rw [hq]; exact F.err_le _
   have hq2 : q.2.2 = 0 → 8 ≤ q.2.1 ∧ at_ + q.2.1 ≤ n := fun h => by
    rw [hq] at h ⊢
    obtain ⟨m, h1, _, h2, _⟩ := F.unwrap_ok h
    have h3 := HDL.out
    rw [h2]
    simp only
    omega
   have HQ := Lib.hid hq
   rw [← hq] at HX
   clear hq
   obtain ⟨q1, q2, q3⟩ := q
   simp only at hq3 hq2
   by_cases h0 : q3 = 0
   ·subst h0
    obtain ⟨hq8, hqn⟩ := hq2 rfl
    have HS2 : Hid (p = ((ls ++ [q1]) ++ (F.all (l.drop (at_ + q2))).1, (at_ + q2) + (F.all (l.drop (at_ + q2))).2)) := by
     show _ = _
     have h1 := HP.out ▸ HS.out
     have := F.all_step (by rw [← HN.out]; exact hat) h1 (by rw [← HQ.out])
     rw [← HQ.out] at this
     rw [HP.out]; exact this
    clear HS hq2
    go_wp2_with fail
    refine (HX.out _ _ (by rw [← HN.out]; omega) (by unfold maxLen; omega) (fun h => by
     have h0 : A = none := by simpa using h
     obtain ⟨rfl, rfl⟩ := HA.out h0
     exact ⟨by simp, by omega⟩) (HRf.out.2 hca)).mono ?_
    rintro e w1 ⟨bv, rfl, bown, bb⟩
    have own1 := ownKept own bb
    have hO1 := (hO.kept bb).snoc (ownMore bown bel.size)
    have bel1 := bel.trans (bb.mono bel.size)
    obtain ⟨bA, bc', rfl, _, _, _⟩ := ownShape bown
    clear own hO bel bown
    go_wp2_with (at_builtin; refine wpList_append_own _ rfl _ _ 139 rfl w.heap.size 34 i0 (.slice none 0 0) 1 24 Tryz.underlying139 hi hz0 hz1 hz2 rfl (by decide) _ _ _ rfl (own1.alloc _) ⟨w1.heap.size, 0, none⟩ 1 1 [.slice bA q1.length bc'] rfl rfl ?c1 ?c2 ?c3 ?c4 ?c5 ?_)
    case c1 => exact oneAt _ _ _
    case c2 => intro u hu; simp at hu; subst hu; rfl
    case c3 => unfold maxLen; omega
    case c4 => omega
    case c5 => have := bel1.size; simp; omega
    intro v' w2 own2 g2 _
    have hO2 : Owns w2 w.heap.size (vs ++ [.slice bA q1.length bc']) (ls ++ [q1]) := (hO1.alloc _).grown (own1.alloc _) (by decide) g2
    have bel2 : Below w.heap.size w w2 := (bel1.alloc bel1.size _).grown g2 (by have := bel1.size; simp; omega) (fun g hg => (own1.lt g hg).1)
    clear own1 hO1 bel1 g2
    go_wp2_with fail
    go_roundw
    case rel => exact ⟨at_ + q2, ls ++ [q1], _, hqn, by go_num, by rw [List.length_append]; exact own2, hO2, by simp; omega, HS2, bel2⟩
    case measure => simp [intOf]; omega
   ·have hfin : p = (ls, at_) := by
     rw [HP.out]; rw [HP.out] at HS; exact F.all_end HS.out (by rw [← HQ.out]; exact h0)
    have HFIN := Lib.hid hfin
    have hb1 : ((q3 : Int) != 0) = true := by simp; omega
    clear hfin HS hq2
    go_wp2_with fail
    refine (HX.out _ _ (by rw [← HN.out]; omega) (by unfold maxLen; omega) (fun h => by
     have h0 : A = none := by simpa using h
     obtain ⟨rfl, rfl⟩ := HA.out h0
     exact ⟨by simp, by omega⟩) (HRf.out.2 hca)).mono ?_
    rintro e w1 ⟨bv, rfl, bown, bb⟩
    go_wp2_with fail
    go_ret2
    rw [HFIN.out]
    exact ⟨_, vs, rfl, ownKept own bb, hO.kept bb, bel.trans (bb.mono bel.size)⟩
end Go.Proofs.YtjofjpmhokjhnaaGreatDoor
