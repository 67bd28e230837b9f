import Derived.Test.YtimfoimcaapodaaDoorVbM18
set_option maxHeartbeats 1600000
set_option maxRecDepth 20001
set_option linter.unusedSimpArgs false
set_option linter.unusedVariables false
namespace Go.Proofs.YtimfoimcaapodaaDoor
set_option maxRecDepth 20000
section
open Go.RowKit
theorem dig_hexd : ∀ i, i < 16 → dig (hexd i) = some i := by decide
theorem mod_step (m u n : Nat) : (m * 16 ^ n + u / 16 % 16 ^ n) * 16 + u % 16 = m * 16 ^ (n + 1) + u % 16 ^ (n + 1) := by
 (have h : u % 16 ^ (n + 1) = u % 16 + 16 * (u / 16 % 16 ^ n) := by rw [Nat.pow_succ, Nat.mul_comm (16 ^ n) 16, Nat.mod_mul]);(have h2 : m * 16 ^ (n + 1) = m * 16 ^ n * 16 := by rw [Nat.pow_succ, Nat.mul_assoc]);rw [h, h2];generalize m * 16 ^ n = x;generalize u / 16 % 16 ^ n = y;omega
theorem pu_hx : ∀ (n u m : Nat) (acc : List UInt8), (m + 1) * 16 ^ n ≤ 18446744073709551616 → pu (hxA n u acc) m = pu acc (m * 16 ^ n + u % 16 ^ n)
 | 0, u, m, acc, _ => by
   unfold hxA;rw [Nat.pow_zero, Nat.mul_one, Nat.mod_one, Nat.add_zero]
 | n + 1, u, m, acc, h => by
   (have e : (m + 1) * 16 ^ (n + 1) = (m + 1) * 16 ^ n * 16 := by rw [Nat.pow_succ, Nat.mul_assoc]);have hp : 0 < 16 ^ n := Nat.pow_pos (by decide);(have h1 : (m + 1) * 16 ^ n ≤ 1152921504606846976 := by omega);(have h2 : (m + 1) * 16 ^ n = m * 16 ^ n + 16 ^ n := by rw [Nat.add_mul, Nat.one_mul]);have h3 : u / 16 % 16 ^ n < 16 ^ n := Nat.mod_lt _ hp;unfold hxA;rw [pu_hx n (u / 16) m _ (by omega), pu_step (dig_hexd _ (Nat.mod_lt _ (by decide))) (by have := Nat.mod_lt u (show 0 < 16 by decide); omega) (by omega), mod_step]
theorem hxA_ne (n u : Nat) (acc : List UInt8) : hxA (n + 1) u acc ≠ [] := fun h => by
 have := congrArg List.length h;rw [hxA_len, List.length_nil] at this;omega
theorem pu0_hx {b : Nat} (hb : b < 18446744073709551616) : pu0 (hxA 16 b []) = (b, 0) := by
 unfold pu0;rw [if_neg (hxA_ne 15 b []), pu_hx 16 b 0 [] (by decide)];show (0 * 16 ^ 16 + b % 16 ^ 16, 0) = _;rw [Nat.zero_mul, Nat.zero_add, Nat.mod_eq_of_lt hb]
theorem parse_show {k : Int} {b : Nat} {t : List UInt8} (hb : b < 18446744073709551616) (hf : V.formed k b t = true) {e : Ending} (h : PvIs (pvK (showL k b t)) (pvB (showL k b t)) (pvT (showL k b t)) (showL k b t) e) :
 e = .returned (.tuple #[.agg #[.int .i64 k, .int .u64 (b : Int), .string ⟨t.toArray⟩], .int .i64 0]) := by
 have key : pvK (showL k b t) = k ∧ pvB (showL k b t) = b ∧ pvT (showL k b t) = t := by
  (have hs : showL k b t = (if k = 1 then 35 :: hxA 16 b [] else if k = 2 then 36 :: t else [110, 111, 110, 101]) := by unfold showL; rw [hf]; rfl);rcases formed_k hf with rfl | rfl | rfl
  ·rw [hs]
   have : b = 0 ∧ t = [] := by
    unfold V.formed at hf;rw [if_pos rfl] at hf;exact of_decide_eq_true hf
   obtain ⟨rfl, rfl⟩ := this;exact ⟨rfl, rfl, rfl⟩
  ·rw [hs, if_pos rfl]
   have : t = [] := by
    unfold V.formed at hf;rw [if_neg (by decide), if_pos rfl] at hf;exact (of_decide_eq_true hf).1
   subst this;refine ⟨rfl, ?_, rfl⟩;show (pu0 (hxA 16 b [])).1 = b;rw [pu0_hx hb]
  ·rw [hs, if_neg (by decide), if_pos rfl]
   have : b = 0 := by
    unfold V.formed at hf;rw [if_neg (by decide), if_neg (by decide), if_pos rfl] at hf;simp at hf;exact hf.1.1
   subst this;exact ⟨rfl, rfl, rfl⟩
 obtain ⟨e1, e2, e3⟩ := key;rw [e1, e2, e3] at h;unfold PvIs at h;rw [beq_self_eq_true] at h;exact h
end
section
open Go.RowKit
namespace V
theorem run_eqv (k : Int) (b : Nat) (t : ByteArray) (k' : Int) (b' : Nat) (t' : ByteArray) (w : World) :
 (binOp .eql 24 (.agg #[.int .i64 k, .int .u64 b, .string t]) (.agg #[.int .i64 k', .int .u64 b', .string t'])).run Tryd.prog w = .ok (.bool (decide (k = k' ∧ b = b' ∧ t.toList = t'.toList))) w := by
 have hf : (Tryd.prog.fieldsOf 24).toList = [{ name := "Kind", type := 3, offset := 0, embedded := false, tag := "", pkgPath := "", byteOffset := 0 },
  { name := "Bits", type := 22, offset := 1, embedded := false, tag := "", pkgPath := "", byteOffset := 8 },
  { name := "Text", type := 9, offset := 2, embedded := false, tag := "", pkgPath := "", byteOffset := 16 }] := by kernel_rfl
 (have h27 : Tryd.prog.underlying 24 = some (.struct (Tryd.prog.fieldsOf 24)) := by kernel_rfl);have e := run_equalIn_struct (P := Tryd.prog) w 9999 24 #[.int .i64 k, .int .u64 b, .string t] #[.int .i64 k', .int .u64 b', .string t'] h27 (by kernel_rfl);rw [run_eql_struct, show (10000 : Nat) = 9999 + 1 from rfl, e, hf];have e0 : ∀ w, (Op.equalIn 9999 3 (.int .i64 k) (.int .i64 k')).run Tryd.prog w = .ok (k == k') w := fun w => run_equalIn_int w 9998 3 .i64 .i64 k k' Tryd.underlying3;have e1 : ∀ w, (Op.equalIn 9999 22 (.int .u64 b) (.int .u64 b')).run Tryd.prog w = .ok ((b : Int) == (b' : Int)) w := fun w => run_equalIn_int w 9998 22 .u64 .u64 _ _ Tryd.underlying22;have e2 : ∀ w, (Op.equalIn 9999 9 (.string t) (.string t')).run Tryd.prog w = .ok (t.toList == t'.toList) w := fun w => run_equalIn_string w 9998 9 t t' Tryd.underlying9;(have p0 : ∀ (x y z : Value) w, (part 3 #[x, y, z] 0).run Tryd.prog w = .ok x w := fun x y z w => by rfl);(have p1 : ∀ (x y z : Value) w, (part 22 #[x, y, z] 1).run Tryd.prog w = .ok y w := fun x y z w => by rfl);(have p2 : ∀ (x y z : Value) w, (part 9 #[x, y, z] 2).run Tryd.prog w = .ok z w := fun x y z w => by rfl);generalize hd : (9999 : Nat) = d at *;clear hd e
 by_cases hk : k = k'
 ·subst hk
  by_cases hb : b = b'
  ·subst hb
   by_cases ht : t.toList = t'.toList
   ·simp [Op.eqFields, e0, e1, e2, p0, p1, p2, ht]
   ·simp [Op.eqFields, e0, e1, e2, p0, p1, p2, ht]
  ·simp [Op.eqFields, e0, e1, e2, p0, p1, p2, hb];exact fun h => absurd (by omega) hb
 ·simp [Op.eqFields, e0, e1, e2, p0, p1, p2, hk]
end V
end
section
open Go.RowKit
theorem v_awake (w : World) : Calls Tryd.prog 5 #[] w fun e w' => e = .returned (.bool true) ∧ Below w.heap.size w w' := by
 go_enter Tryd.func5, Tryd.ntmps5
 go_wp2_with fail
 refine (formed_zero w).mono ?_;rintro e w1 ⟨rfl, b1⟩
 go_wp2_with fail
 refine (key_any ⟨#[97, 49]⟩ w1 (by decide)).mono ?_;rw [show V.key (⟨#[97, 49]⟩ : ByteArray).data.toList = true from by decide +kernel];rintro e w2 ⟨rfl, b2⟩
 go_wp2_with fail
 go_ret
 exact ⟨rfl, b1.trans (b2.mono b1.size)⟩
end
section
open Go.RowKit Go.ChangeShapes Go.WideShapes Go.ChangeAt
theorem Cel.val {W : World} {cs : List Value} (h : Cel W 24 cs) : ∃ (k : Int) (b : Nat) (t : ByteArray), cs = [.int .i64 k, .int .u64 (b : Int), .string t] ∧ -9223372036854775808 ≤ k ∧ k ≤ 9223372036854775807 ∧ b < 18446744073709551616 ∧ t.size ≤ 9223372036854775807 := by
 have hl := h.len Tryd.underlying24;rw [show Tryd.prog.cellsOf 24 = 3 by kernel_rfl] at hl
 match cs, hl with
 | [x, y, z], _ =>
   obtain ⟨k, hk, k1, k2⟩ := (h.field1 Tryd.underlying24 0 0 3 _ rfl rfl rfl (by kernel_rfl) x rfl).i64 Tryd.underlying3;obtain ⟨b, hb, b1⟩ := (h.field1 Tryd.underlying24 1 1 22 _ rfl rfl rfl (by kernel_rfl) y rfl).u64 Tryd.underlying22;obtain ⟨t, ht, t1⟩ := (h.field1 Tryd.underlying24 2 2 9 _ rfl rfl rfl (by kernel_rfl) z rfl).string Tryd.underlying9
   cases hk; cases hb; cases ht
   exact ⟨k, b, t, rfl, k1, k2, b1, t1⟩
theorem Arg.val {W : World} {v : Value} (h : Arg W 24 v) : ∃ (k : Int) (b : Nat) (t : ByteArray), v = V.val k b t ∧ -9223372036854775808 ≤ k ∧ k ≤ 9223372036854775807 ∧ b < 18446744073709551616 ∧ t.size ≤ 9223372036854775807 := by
 obtain ⟨cs, rfl, hc⟩ := h.struct Tryd.underlying24;obtain ⟨k, b, t, e, r⟩ := hc.val;refine ⟨k, b, t, ?_, r⟩;unfold V.val
 congr 1
 apply Array.ext'
 exact e
end
section
open Go.RowKit
theorem eqS (w : World) (k : Int) (b : Nat) (t : List UInt8) : (binOp .eql 24 (.agg #[.int .i64 k, .int .u64 (b : Int), .string ⟨t.toArray⟩]) (.agg #[.int .i64 k, .int .u64 (b : Int), .string ⟨t.toArray⟩])).run Tryd.prog w = .ok (.bool true) w := by
 rw [V.run_eqv k b ⟨t.toArray⟩ k b ⟨t.toArray⟩ w, decide_eq_true ⟨rfl, rfl, rfl⟩]
end
section
open Go.RowKit
def V.put (l : List UInt8) (k : Int) (b : Nat) (t : List UInt8) : List UInt8 :=
 if V.formed k b t = true then (if k = 1 then C.put (C.put l 1 1) b 8 else if k = 2 then C.putText (C.put l 2 1) t else C.put l 0 1) else l
theorem put_len2 (l : List UInt8) (x : Nat) (n : Int) : (C.put l x n).length ≤ l.length + 8 := by unfold C.put; rw [List.length_append, C.be_len]; have := C.clamp8_le n; omega
theorem puttext_len (l : List UInt8) (t : List UInt8) : (C.putText l t).length ≤ l.length + 65537 := by
 unfold C.putText; simp only [List.length_append, C.be_len, List.length_take]; omega
theorem V.put_len (l : List UInt8) (k : Int) (b : Nat) (t : List UInt8) : (V.put l k b t).length ≤ l.length + 65545 := by
 unfold V.put;have h0 := put_len2 l 0 1;have h1 := put_len2 l 1 1;have h2 := put_len2 (C.put l 1 1) b 8;have h3 := put_len2 l 2 1;have h4 := puttext_len (C.put l 2 1) t
 split
 ·split
  ·omega
  ·split <;> omega
 ·omega
section
variable (A : Option Addr) (c : Nat) (l : List UInt8) (b : Nat) (t : ByteArray) (w : World) (B0 : Nat)
theorem vput_none (k : Int) (hl : l.length ≤ 137438953472) (hA : A = none → l = [] ∧ c = 0) (hr : Rd w B0 A (bc l)) (hB : B0 ≤ w.heap.size) (hT : Tabs w) (hf : V.formed k b t.data.toList = false) :
 Calls Tryd.prog 11 #[.slice A l.length c, .agg #[.int .i64 k, .int .u64 (b : Int), .string t]] w (MadeB w (l)) := by
 have HF := Lib.hid (fun z (hz : Tabs z) => formed_any k b t z hz);rw [hf] at HF;unfold V.val at HF;have hT1 := Lib.hid (show Tabs (w.alloc (.cells #[.int .i64 k, .int .u64 b, .string t] 24)) from hT.below ((Below.refl _ _).alloc (Nat.le_refl _) _));have g0 := (Below.refl w.heap.size w).alloc (Nat.le_refl _) (.cells #[.int .i64 k, .int .u64 b, .string t] 24);have c1 := Lib.hid (cell3 w (.int .i64 k) (.int .u64 b) (.string t) 24);clear hf hT
 go_enter Tryd.func11, Tryd.ntmps11
 go_wp2_with fail
 refine (HF.out _ hT1.out).mono ?_;rintro e w1 ⟨rfl, b1⟩;obtain ⟨a1, a2, a3⟩ := c1.out;have d1 := cellB b1 a1;have d2 := cellB b1 a2;have d3 := cellB b1 a3;have e1 := g0.trans (b1.mono g0.size);have hr1 := hr.belowM e1 hB;have s1 := e1.size;clear a1 a2 a3 c1 b1 g0 hT1 HF
 go_wp2_with fail
 refine (clone_any A c l w1 B0 (by omega) hA hr1 (by omega)).mono ?_;rintro e w2 ⟨v, rfl, o2, b2⟩
 go_wp2_with fail
 go_ret
 exact ⟨_, rfl, ownMore o2 s1, e1.trans (b2.mono s1)⟩
theorem vput_0 (hl : l.length ≤ 137438953472) (hA : A = none → l = [] ∧ c = 0) (hr : Rd w B0 A (bc l)) (hB : B0 ≤ w.heap.size) (hT : Tabs w) (hf : V.formed 0 b t.data.toList = true) :
 Calls Tryd.prog 11 #[.slice A l.length c, .agg #[.int .i64 0, .int .u64 (b : Int), .string t]] w (MadeB w (C.put l 0 1)) := by
 have HF := Lib.hid (fun z (hz : Tabs z) => formed_any 0 b t z hz);rw [hf] at HF;unfold V.val at HF;have hT1 := Lib.hid (show Tabs (w.alloc (.cells #[.int .i64 0, .int .u64 b, .string t] 24)) from hT.below ((Below.refl _ _).alloc (Nat.le_refl _) _));have g0 := (Below.refl w.heap.size w).alloc (Nat.le_refl _) (.cells #[.int .i64 0, .int .u64 b, .string t] 24);have c1 := Lib.hid (cell3 w (.int .i64 0) (.int .u64 b) (.string t) 24);clear hf hT
 go_enter Tryd.func11, Tryd.ntmps11
 go_wp2_with fail
 refine (HF.out _ hT1.out).mono ?_;rintro e w1 ⟨rfl, b1⟩;obtain ⟨a1, a2, a3⟩ := c1.out;have d1 := cellB b1 a1;have d2 := cellB b1 a2;have d3 := cellB b1 a3;have e1 := g0.trans (b1.mono g0.size);have hr1 := hr.belowM e1 hB;have s1 := e1.size;clear a1 a2 a3 c1 b1 g0 hT1 HF
 go_wp2_with fail
 refine (put_any A c l 0 1 w1 B0 (by omega) hA hr1 (by omega) (by omega)).mono ?_;rintro e w2 ⟨v, rfl, o2, b2⟩;have d1 := cellB b2 d1
 go_wp2_with fail
 go_ret
 exact ⟨_, rfl, ownMore o2 s1, e1.trans (b2.mono s1)⟩
theorem vput_1 (bb : b < 18446744073709551616) (hl : l.length ≤ 137438953472) (hA : A = none → l = [] ∧ c = 0) (hr : Rd w B0 A (bc l)) (hB : B0 ≤ w.heap.size) (hT : Tabs w) (hf : V.formed 1 b t.data.toList = true) :
 Calls Tryd.prog 11 #[.slice A l.length c, .agg #[.int .i64 1, .int .u64 (b : Int), .string t]] w (MadeB w (C.put (C.put l 1 1) b 8)) := by
 have HF := Lib.hid (fun z (hz : Tabs z) => formed_any 1 b t z hz);rw [hf] at HF;unfold V.val at HF;have hT1 := Lib.hid (show Tabs (w.alloc (.cells #[.int .i64 1, .int .u64 b, .string t] 24)) from hT.below ((Below.refl _ _).alloc (Nat.le_refl _) _));have g0 := (Below.refl w.heap.size w).alloc (Nat.le_refl _) (.cells #[.int .i64 1, .int .u64 b, .string t] 24);have c1 := Lib.hid (cell3 w (.int .i64 1) (.int .u64 b) (.string t) 24);clear hf hT
 go_enter Tryd.func11, Tryd.ntmps11
 go_wp2_with fail
 refine (HF.out _ hT1.out).mono ?_;rintro e w1 ⟨rfl, b1⟩;obtain ⟨a1, a2, a3⟩ := c1.out;have d1 := cellB b1 a1;have d2 := cellB b1 a2;have d3 := cellB b1 a3;have e1 := g0.trans (b1.mono g0.size);have hr1 := hr.belowM e1 hB;have s1 := e1.size;clear a1 a2 a3 c1 b1 g0 hT1 HF
 go_wp2_with fail
 refine (put_any A c l 1 1 w1 B0 (by omega) hA hr1 (by omega) (by omega)).mono ?_;rintro e w2 ⟨v, rfl, o2, b2⟩;have d1 := cellB b2 d1;have d2 := cellB b2 d2;obtain ⟨A2, c2, rfl, hc2, hA2, hm2⟩ := ownShape o2;have n1 := put_len2 l 1 1;have hA2 : A2 = none → C.put l 1 1 = [] ∧ c2 = 0 := fun h => ⟨List.eq_nil_of_length_eq_zero (hA2 h).1, (hA2 h).2⟩
 go_wp2_with fail
 refine (put_any A2 c2 (C.put l 1 1) b 8 w2 w2.heap.size (by omega) hA2 (Rd.ofOwn o2) (Nat.le_refl _) bb).mono ?_;rintro e w3 ⟨v3, rfl, o3, b3⟩;have e2 := e1.trans (b2.mono s1);have s2 := e2.size
 go_wp2_with fail
 go_ret
 exact ⟨_, rfl, ownMore o3 s2, e2.trans (b3.mono s2)⟩
theorem vput_2 (hs : t.size ≤ 9223372036854775807) (hl : l.length ≤ 137438953472) (hA : A = none → l = [] ∧ c = 0) (hr : Rd w B0 A (bc l)) (hB : B0 ≤ w.heap.size) (hT : Tabs w) (hf : V.formed 2 b t.data.toList = true) :
 Calls Tryd.prog 11 #[.slice A l.length c, .agg #[.int .i64 2, .int .u64 (b : Int), .string t]] w (MadeB w (C.putText (C.put l 2 1) t.data.toList)) := by
 have HF := Lib.hid (fun z (hz : Tabs z) => formed_any 2 b t z hz);rw [hf] at HF;unfold V.val at HF;have hT1 := Lib.hid (show Tabs (w.alloc (.cells #[.int .i64 2, .int .u64 b, .string t] 24)) from hT.below ((Below.refl _ _).alloc (Nat.le_refl _) _));have g0 := (Below.refl w.heap.size w).alloc (Nat.le_refl _) (.cells #[.int .i64 2, .int .u64 b, .string t] 24);have c1 := Lib.hid (cell3 w (.int .i64 2) (.int .u64 b) (.string t) 24);clear hf hT
 go_enter Tryd.func11, Tryd.ntmps11
 go_wp2_with fail
 refine (HF.out _ hT1.out).mono ?_;rintro e w1 ⟨rfl, b1⟩;obtain ⟨a1, a2, a3⟩ := c1.out;have d1 := cellB b1 a1;have d2 := cellB b1 a2;have d3 := cellB b1 a3;have e1 := g0.trans (b1.mono g0.size);have hr1 := hr.belowM e1 hB;have s1 := e1.size;clear a1 a2 a3 c1 b1 g0 hT1 HF
 go_wp2_with fail
 refine (put_any A c l 2 1 w1 B0 (by omega) hA hr1 (by omega) (by omega)).mono ?_;rintro e w2 ⟨v, rfl, o2, b2⟩;have d1 := cellB b2 d1;have d3 := cellB b2 d3;obtain ⟨A2, c2, rfl, hc2, hA2, hm2⟩ := ownShape o2;have n1 := put_len2 l 2 1;have hA2 : A2 = none → C.put l 2 1 = [] ∧ c2 = 0 := fun h => ⟨List.eq_nil_of_length_eq_zero (hA2 h).1, (hA2 h).2⟩
 go_wp2_with fail
 refine (puttext_any A2 c2 (C.put l 2 1) t w2 w2.heap.size (by omega) hA2 (Rd.ofOwn o2) (Nat.le_refl _) hs).mono ?_;rintro e w3 ⟨v3, rfl, o3, b3⟩;have e2 := e1.trans (b2.mono s1);have s2 := e2.size
 go_wp2_with fail
 go_ret
 exact ⟨_, rfl, ownMore o3 s2, e2.trans (b3.mono s2)⟩
theorem formed_kind {k : Int} {b : Nat} {t : List UInt8} (h : V.formed k b t = true) : k = 0 ∨ k = 1 ∨ k = 2 := by
 unfold V.formed at h
 by_cases h0 : k = 0
 ·exact .inl h0
 ·by_cases h1 : k = 1
  ·exact .inr (.inl h1)
  ·by_cases h2 : k = 2
   ·exact .inr (.inr h2)
   ·rw [if_neg h0, if_neg h1, if_neg h2] at h; exact Bool.noConfusion h
theorem vput_any (k : Int) (bb : b < 18446744073709551616) (hs : t.size ≤ 9223372036854775807) (hl : l.length ≤ 137438953472) (hA : A = none → l = [] ∧ c = 0) (hr : Rd w B0 A (bc l)) (hB : B0 ≤ w.heap.size) (hT : Tabs w) :
 Calls Tryd.prog 11 #[.slice A l.length c, V.val k b t] w (MadeB w (V.put l k b t.data.toList)) := by
 unfold V.put V.val
 cases hf : V.formed k b t.data.toList with
 | false => rw [if_neg (by simp)]; exact vput_none A c l b t w B0 k hl hA hr hB hT hf
 | true =>
   rw [if_pos rfl];rcases formed_kind hf with rfl | rfl | rfl
   ·rw [if_neg (by omega), if_neg (by omega)]; exact vput_0 A c l b t w B0 hl hA hr hB hT hf
   ·rw [if_pos rfl]; exact vput_1 A c l b t w B0 bb hl hA hr hB hT hf
   ·rw [if_neg (by omega), if_pos rfl]; exact vput_2 A c l b t w B0 hs hl hA hr hB hT hf
end
end
end Go.Proofs.YtimfoimcaapodaaDoor
