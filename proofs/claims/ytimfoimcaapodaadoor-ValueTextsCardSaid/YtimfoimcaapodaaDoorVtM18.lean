import Derived.Test.YtimfoimcaapodaaDoorVtM17
set_option maxHeartbeats 1600000
set_option maxRecDepth 20001
set_option linter.unusedSimpArgs false
set_option linter.unusedVariables false
namespace Go.Proofs.YtimfoimcaapodaaDoor
set_option maxRecDepth 20000
section
open Go.RowKit
theorem dig_hexd : ∀ i, i < 16 → dig (hexd i) = some i := by decide
theorem rd_hexd : ∀ i, i < 16 → rd16 (hexd i) = i := by decide
theorem mod_step (m u n : Nat) : (m * 16 ^ n + u / 16 % 16 ^ n) * 16 + u % 16 = m * 16 ^ (n + 1) + u % 16 ^ (n + 1) := by
 (have h : u % 16 ^ (n + 1) = u % 16 + 16 * (u / 16 % 16 ^ n) := by rw [Nat.pow_succ, Nat.mul_comm (16 ^ n) 16, Nat.mod_mul]);(have h2 : m * 16 ^ (n + 1) = m * 16 ^ n * 16 := by rw [Nat.pow_succ, Nat.mul_assoc]);rw [h, h2];generalize m * 16 ^ n = x;generalize u / 16 % 16 ^ n = y;omega
theorem rf_hx : ∀ (n u m : Nat) (acc : List UInt8), rf (hxA n u acc) m = rf acc (m * 16 ^ n + u % 16 ^ n)
 | 0, u, m, acc => by
   unfold hxA;rw [Nat.pow_zero, Nat.mul_one, Nat.mod_one, Nat.add_zero]
 | n + 1, u, m, acc => by
   unfold hxA;rw [rf_hx n];show rf acc ((m * 16 ^ n + u / 16 % 16 ^ n) * 16 + rd16 (hexd (u % 16))) = _;rw [rd_hexd _ (Nat.mod_lt _ (by decide)), mod_step]
theorem pu_hx : ∀ (n u m : Nat) (acc : List UInt8), (m + 1) * 16 ^ n ≤ 18446744073709551616 → pu (hxA n u acc) m = pu acc (m * 16 ^ n + u % 16 ^ n)
 | 0, u, m, acc, _ => by
   unfold hxA;rw [Nat.pow_zero, Nat.mul_one, Nat.mod_one, Nat.add_zero]
 | n + 1, u, m, acc, h => by
   (have e : (m + 1) * 16 ^ (n + 1) = (m + 1) * 16 ^ n * 16 := by rw [Nat.pow_succ, Nat.mul_assoc]);have hp : 0 < 16 ^ n := Nat.pow_pos (by decide);(have h1 : (m + 1) * 16 ^ n ≤ 1152921504606846976 := by omega);(have h2 : (m + 1) * 16 ^ n = m * 16 ^ n + 16 ^ n := by rw [Nat.add_mul, Nat.one_mul]);have h3 : u / 16 % 16 ^ n < 16 ^ n := Nat.mod_lt _ hp;unfold hxA;rw [pu_hx n (u / 16) m _ (by omega), pu_step (dig_hexd _ (Nat.mod_lt _ (by decide))) (by have := Nat.mod_lt u (show 0 < 16 by decide); omega) (by omega), mod_step]
theorem hxA_ne (n u : Nat) (acc : List UInt8) : hxA (n + 1) u acc ≠ [] := fun h => by
 have := congrArg List.length h;rw [hxA_len, List.length_nil] at this;omega
theorem pu0_hx {b : Nat} (hb : b < 18446744073709551616) : pu0 (hxA 16 b []) = (b, 0) := by
 unfold pu0;rw [if_neg (hxA_ne 15 b []), pu_hx 16 b 0 [] (by decide)];show (0 * 16 ^ 16 + b % 16 ^ 16, 0) = _;rw [Nat.zero_mul, Nat.zero_add, Nat.mod_eq_of_lt hb]
theorem rf_hx0 {b : Nat} (hb : b < 18446744073709551616) : rf (hxA 16 b []) 0 = b := by
 rw [rf_hx 16 b 0 []];show 0 * 16 ^ 16 + b % 16 ^ 16 = _;rw [Nat.zero_mul, Nat.zero_add, Nat.mod_eq_of_lt hb]
theorem rf_lt : ∀ (l : List UInt8) (n k : Nat), n < 16 ^ k → rf l n < 16 ^ (k + l.length)
 | [], n, k, h => h
 | c :: r, n, k, h => by
   have := rf_lt r (n * 16 + rd16 c) (k + 1) (by rw [Nat.pow_succ]; have := rd16_lt c; omega);rw [List.length_cons, show k + (r.length + 1) = k + 1 + r.length by omega];exact this
theorem show1 {b : Nat} {t s : List UInt8} (h : (showL 1 b t == s) = true) (hs : s ≠ []) : s = 35 :: hxA 16 b [] := by
 have h := eq_of_beq h;unfold showL at h
 cases hf : V.formed 1 b t with
 | false => rw [hf] at h; exact absurd h.symm hs
 | true => rw [hf, cond_true, if_pos rfl] at h; exact h.symm
theorem show0 : showL 0 0 [] = [110, 111, 110, 101] := by decide
theorem pv_eq {k : Int} {b : Nat} {t s : List UInt8} {e : Ending} (h : RvIs k b t s) (he : PvIs k b t s e) : PvIs (pvK s) (pvB s) (pvT s) s e := by
 rcases h with ⟨h1, h2, rfl, rfl, rfl⟩ | ⟨h1, h2, rfl, rfl, rfl⟩ | ⟨h1, h2, rfl, rfl, rfl⟩
 ·cases s with
  | nil => cases h1
  | cons x r =>
    have hx : x = 35 := h2;subst hx;have e1 : pvK (35 :: r) = 1 := rfl;have e2 : pvB (35 :: r) = (pu0 r).1 := rfl;have e3 : pvT (35 :: r) = [] := rfl;rw [e1, e2, e3];(have hr : r.length = 16 := by rw [List.length_cons] at h1; omega)
    have hb : rf r 0 < 18446744073709551616 := by
     have := rf_lt r 0 0 (by decide);rw [hr] at this;exact this
    have he : PvIs 1 (rf r 0) [] (35 :: r) e := he
    cases hq : (showL 1 (rf r 0) [] == 35 :: r) with
    | true =>
      have := show1 hq (List.cons_ne_nil _ _);injection this with _ hr2;have : (pu0 r).1 = rf r 0 := (congrArg (fun l => (pu0 l).1) hr2).trans (congrArg Prod.fst (pu0_hx hb));rw [this];exact he
    | false =>
      cases hq2 : (showL 1 (pu0 r).1 [] == 35 :: r) with
      | true =>
        have := show1 hq2 (List.cons_ne_nil _ _);injection this with _ hr2;have : rf r 0 = (pu0 r).1 := (congrArg (fun l => rf l 0) hr2).trans (rf_hx0 (pu0_lt r));rw [this, hq2] at hq;cases hq
      | false =>
        unfold PvIs at he ⊢;rw [hq] at he;rw [hq2];exact he
 ·cases s with
  | nil => exact absurd rfl h1
  | cons x r =>
    have hx : x = 36 := h2;subst hx;exact he
 ·cases s with
  | nil => exact he
  | cons x r =>
    have hx2 : ¬ x = 36 := fun q => h2 ⟨List.cons_ne_nil _ _, q⟩;have n36 : ¬ ((x :: r).head? = some 36) := fun q => hx2 (Option.some.inj q)
    by_cases hx : x = 35
    ·subst hx;have e1 : pvK (35 :: r) = 1 := rfl;have e2 : pvB (35 :: r) = (pu0 r).1 := rfl;have e3 : pvT (35 :: r) = [] := rfl;rw [e1, e2, e3];(have hq : (showL 0 0 [] == 35 :: r) = false := by rw [show0]; rfl);unfold PvIs at he ⊢;rw [hq] at he
     cases hq2 : (showL 1 (pu0 r).1 [] == 35 :: r) with
     | true =>
       have := show1 hq2 (List.cons_ne_nil _ _);injection this with _ hr2;refine absurd ⟨?_, rfl⟩ h1;rw [List.length_cons, hr2, hxA_len];rfl
     | false => exact he
    ·have n35 : ¬ ((x :: r).head? = some 35) := fun q => hx (Option.some.inj q);have e1 : pvK (x :: r) = 0 := (if_neg n35).trans (if_neg n36);have e2 : pvB (x :: r) = 0 := if_neg n35;have e3 : pvT (x :: r) = [] := (if_neg n35).trans (if_neg n36);rw [e1, e2, e3];exact he
theorem rparse_any {w : World} (s : List UInt8) (hs : s.length ≤ 1000000) : Calls Tryd.prog 7 #[.string ⟨s.toArray⟩] w fun e w' => PvIs (pvK s) (pvB s) (pvT s) s e ∧ Below w.heap.size w w' :=
 (rparse_0 s hs).mono fun e w' h => by
  obtain ⟨⟨k, b, t, h1, h2⟩, h3⟩ := h;exact ⟨pv_eq h1 h2, h3⟩
end
section
open Go.RowKit
namespace V
theorem run_eqv (k : Int) (b : Nat) (t : ByteArray) (k' : Int) (b' : Nat) (t' : ByteArray) (w : World) :
 (binOp .eql 24 (.agg #[.int .i64 k, .int .u64 b, .string t]) (.agg #[.int .i64 k', .int .u64 b', .string t'])).run Tryd.prog w = .ok (.bool (decide (k = k' ∧ b = b' ∧ t.toList = t'.toList))) w := by
 have hf : (Tryd.prog.fieldsOf 24).toList = [{ name := "Kind", type := 3, offset := 0, embedded := false, tag := "", pkgPath := "", byteOffset := 0 },
  { name := "Bits", type := 22, offset := 1, embedded := false, tag := "", pkgPath := "", byteOffset := 8 },
  { name := "Text", type := 9, offset := 2, embedded := false, tag := "", pkgPath := "", byteOffset := 16 }] := by kernel_rfl
 (have h27 : Tryd.prog.underlying 24 = some (.struct (Tryd.prog.fieldsOf 24)) := by kernel_rfl);have e := run_equalIn_struct (P := Tryd.prog) w 9999 24 #[.int .i64 k, .int .u64 b, .string t] #[.int .i64 k', .int .u64 b', .string t'] h27 (by kernel_rfl);rw [run_eql_struct, show (10000 : Nat) = 9999 + 1 from rfl, e, hf];have e0 : ∀ w, (Op.equalIn 9999 3 (.int .i64 k) (.int .i64 k')).run Tryd.prog w = .ok (k == k') w := fun w => run_equalIn_int w 9998 3 .i64 .i64 k k' Tryd.underlying3;have e1 : ∀ w, (Op.equalIn 9999 22 (.int .u64 b) (.int .u64 b')).run Tryd.prog w = .ok ((b : Int) == (b' : Int)) w := fun w => run_equalIn_int w 9998 22 .u64 .u64 _ _ Tryd.underlying22;have e2 : ∀ w, (Op.equalIn 9999 9 (.string t) (.string t')).run Tryd.prog w = .ok (t.toList == t'.toList) w := fun w => run_equalIn_string w 9998 9 t t' Tryd.underlying9;(have p0 : ∀ (x y z : Value) w, (part 3 #[x, y, z] 0).run Tryd.prog w = .ok x w := fun x y z w => by rfl);(have p1 : ∀ (x y z : Value) w, (part 22 #[x, y, z] 1).run Tryd.prog w = .ok y w := fun x y z w => by rfl);(have p2 : ∀ (x y z : Value) w, (part 9 #[x, y, z] 2).run Tryd.prog w = .ok z w := fun x y z w => by rfl);generalize hd : (9999 : Nat) = d at *;clear hd e
 by_cases hk : k = k'
 ·subst hk
  by_cases hb : b = b'
  ·subst hb
   by_cases ht : t.toList = t'.toList
   ·simp [Op.eqFields, e0, e1, e2, p0, p1, p2, ht]
   ·simp [Op.eqFields, e0, e1, e2, p0, p1, p2, ht]
  ·simp [Op.eqFields, e0, e1, e2, p0, p1, p2, hb];exact fun h => absurd (by omega) hb
 ·simp [Op.eqFields, e0, e1, e2, p0, p1, p2, hk]
end V
end
section
open Go.RowKit
theorem v_awake (w : World) : Calls Tryd.prog 5 #[] w fun e w' => e = .returned (.bool true) ∧ Below w.heap.size w w' := by
 go_enter Tryd.func5, Tryd.ntmps5
 go_wp2_with fail
 refine (formed_zero w).mono ?_;rintro e w1 ⟨rfl, b1⟩
 go_wp2_with fail
 refine (key_any ⟨#[97, 49]⟩ w1 (by decide)).mono ?_;rw [show V.key (⟨#[97, 49]⟩ : ByteArray).data.toList = true from by decide +kernel];rintro e w2 ⟨rfl, b2⟩
 go_wp2_with fail
 go_ret
 exact ⟨rfl, b1.trans (b2.mono b1.size)⟩
end
section
open Go.RowKit Go.ChangeShapes Go.WideShapes Go.ChangeAt
theorem Cel.val {W : World} {cs : List Value} (h : Cel W 24 cs) : ∃ (k : Int) (b : Nat) (t : ByteArray), cs = [.int .i64 k, .int .u64 (b : Int), .string t] ∧ -9223372036854775808 ≤ k ∧ k ≤ 9223372036854775807 ∧ b < 18446744073709551616 ∧ t.size ≤ 9223372036854775807 := by
 have hl := h.len Tryd.underlying24;rw [show Tryd.prog.cellsOf 24 = 3 by kernel_rfl] at hl
 match cs, hl with
 | [x, y, z], _ =>
   obtain ⟨k, hk, k1, k2⟩ := (h.field1 Tryd.underlying24 0 0 3 _ rfl rfl rfl (by kernel_rfl) x rfl).i64 Tryd.underlying3;obtain ⟨b, hb, b1⟩ := (h.field1 Tryd.underlying24 1 1 22 _ rfl rfl rfl (by kernel_rfl) y rfl).u64 Tryd.underlying22;obtain ⟨t, ht, t1⟩ := (h.field1 Tryd.underlying24 2 2 9 _ rfl rfl rfl (by kernel_rfl) z rfl).string Tryd.underlying9
   cases hk; cases hb; cases ht
   exact ⟨k, b, t, rfl, k1, k2, b1, t1⟩
theorem Arg.val {W : World} {v : Value} (h : Arg W 24 v) : ∃ (k : Int) (b : Nat) (t : ByteArray), v = V.val k b t ∧ -9223372036854775808 ≤ k ∧ k ≤ 9223372036854775807 ∧ b < 18446744073709551616 ∧ t.size ≤ 9223372036854775807 := by
 obtain ⟨cs, rfl, hc⟩ := h.struct Tryd.underlying24;obtain ⟨k, b, t, e, r⟩ := hc.val;refine ⟨k, b, t, ?_, r⟩;unfold V.val
 congr 1
 apply Array.ext'
 exact e
end
end Go.Proofs.YtimfoimcaapodaaDoor
