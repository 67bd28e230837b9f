import Derived.Test.YthclniimhpmeoaaGreatDoorMrM7
set_option maxHeartbeats 1600000
set_option maxRecDepth 20001
set_option linter.unusedSimpArgs false
set_option linter.unusedVariables false
namespace Go.Proofs.YthclniimhpmeoaaGreatDoor
set_option maxRecDepth 20000
section
open Go.RowKit
def V.put (l : List UInt8) (k : Int) (b : Nat) (t : List UInt8) : List UInt8 :=
 if V.formed k b t = true then (if k = 1 then C.put (C.put l 1 1) b 8 else if k = 2 then C.putText (C.put l 2 1) t else C.put l 0 1) else l
theorem put_len2 (l : List UInt8) (x : Nat) (n : Int) : (C.put l x n).length ≤ l.length + 8 := by unfold C.put; rw [List.length_append, C.be_len]; have := C.clamp8_le n; omega
theorem puttext_len (l : List UInt8) (t : List UInt8) : (C.putText l t).length ≤ l.length + 65537 := by
 unfold C.putText; simp only [List.length_append, C.be_len, List.length_take]; omega
theorem V.put_len (l : List UInt8) (k : Int) (b : Nat) (t : List UInt8) : (V.put l k b t).length ≤ l.length + 65545 := by
 unfold V.put;have h0 := put_len2 l 0 1;have h1 := put_len2 l 1 1;have h2 := put_len2 (C.put l 1 1) b 8;have h3 := put_len2 l 2 1;have h4 := puttext_len (C.put l 2 1) t
 split
 ·split
  ·omega
  ·split <;> omega
 ·omega
section
variable (A : Option Addr) (c : Nat) (l : List UInt8) (b : Nat) (t : ByteArray) (w : World) (B0 : Nat)
theorem vput_none (k : Int) (hl : l.length ≤ 137438953472) (hA : A = none → l = [] ∧ c = 0) (hr : Rd w B0 A (bc l)) (hB : B0 ≤ w.heap.size) (hT : Tabs w) (hf : V.formed k b t.data.toList = false) :
 Calls Tryz.prog 112 #[.slice A l.length c, .agg #[.int .i64 k, .int .u64 (b : Int), .string t]] w (MadeB w (l)) := by
 have HF := Lib.hid (fun z (hz : Tabs z) => formed_any k b t z hz);rw [hf] at HF;unfold V.val at HF;have hT1 := Lib.hid (show Tabs (w.alloc (.cells #[.int .i64 k, .int .u64 b, .string t] 77)) from hT.below ((Below.refl _ _).alloc (Nat.le_refl _) _));have g0 := (Below.refl w.heap.size w).alloc (Nat.le_refl _) (.cells #[.int .i64 k, .int .u64 b, .string t] 77);have c1 := Lib.hid (cell3 w (.int .i64 k) (.int .u64 b) (.string t) 77);clear hf hT
 go_enter Tryz.func112, Tryz.ntmps112
 go_wp2_with fail
 refine (HF.out _ hT1.out).mono ?_;rintro e w1 ⟨rfl, b1⟩;obtain ⟨a1, a2, a3⟩ := c1.out;have d1 := cellB b1 a1;have d2 := cellB b1 a2;have d3 := cellB b1 a3;have e1 := g0.trans (b1.mono g0.size);have hr1 := hr.belowM e1 hB;have s1 := e1.size;clear a1 a2 a3 c1 b1 g0 hT1 HF
 go_wp2_with fail
 refine (clone_any A c l w1 B0 (by omega) hA hr1 (by omega)).mono ?_;rintro e w2 ⟨v, rfl, o2, b2⟩
 go_wp2_with fail
 go_ret
 exact ⟨_, rfl, ownMore o2 s1, e1.trans (b2.mono s1)⟩
theorem vput_0 (hl : l.length ≤ 137438953472) (hA : A = none → l = [] ∧ c = 0) (hr : Rd w B0 A (bc l)) (hB : B0 ≤ w.heap.size) (hT : Tabs w) (hf : V.formed 0 b t.data.toList = true) :
 Calls Tryz.prog 112 #[.slice A l.length c, .agg #[.int .i64 0, .int .u64 (b : Int), .string t]] w (MadeB w (C.put l 0 1)) := by
 have HF := Lib.hid (fun z (hz : Tabs z) => formed_any 0 b t z hz);rw [hf] at HF;unfold V.val at HF;have hT1 := Lib.hid (show Tabs (w.alloc (.cells #[.int .i64 0, .int .u64 b, .string t] 77)) from hT.below ((Below.refl _ _).alloc (Nat.le_refl _) _));have g0 := (Below.refl w.heap.size w).alloc (Nat.le_refl _) (.cells #[.int .i64 0, .int .u64 b, .string t] 77);have c1 := Lib.hid (cell3 w (.int .i64 0) (.int .u64 b) (.string t) 77);clear hf hT
 go_enter Tryz.func112, Tryz.ntmps112
 go_wp2_with fail
 refine (HF.out _ hT1.out).mono ?_;rintro e w1 ⟨rfl, b1⟩;obtain ⟨a1, a2, a3⟩ := c1.out;have d1 := cellB b1 a1;have d2 := cellB b1 a2;have d3 := cellB b1 a3;have e1 := g0.trans (b1.mono g0.size);have hr1 := hr.belowM e1 hB;have s1 := e1.size;clear a1 a2 a3 c1 b1 g0 hT1 HF
 go_wp2_with fail
 refine (put_any A c l 0 1 w1 B0 (by omega) hA hr1 (by omega) (by omega)).mono ?_;rintro e w2 ⟨v, rfl, o2, b2⟩;have d1 := cellB b2 d1
 go_wp2_with fail
 go_ret
 exact ⟨_, rfl, ownMore o2 s1, e1.trans (b2.mono s1)⟩
theorem vput_1 (bb : b < 18446744073709551616) (hl : l.length ≤ 137438953472) (hA : A = none → l = [] ∧ c = 0) (hr : Rd w B0 A (bc l)) (hB : B0 ≤ w.heap.size) (hT : Tabs w) (hf : V.formed 1 b t.data.toList = true) :
 Calls Tryz.prog 112 #[.slice A l.length c, .agg #[.int .i64 1, .int .u64 (b : Int), .string t]] w (MadeB w (C.put (C.put l 1 1) b 8)) := by
 have HF := Lib.hid (fun z (hz : Tabs z) => formed_any 1 b t z hz);rw [hf] at HF;unfold V.val at HF;have hT1 := Lib.hid (show Tabs (w.alloc (.cells #[.int .i64 1, .int .u64 b, .string t] 77)) from hT.below ((Below.refl _ _).alloc (Nat.le_refl _) _));have g0 := (Below.refl w.heap.size w).alloc (Nat.le_refl _) (.cells #[.int .i64 1, .int .u64 b, .string t] 77);have c1 := Lib.hid (cell3 w (.int .i64 1) (.int .u64 b) (.string t) 77);clear hf hT
 go_enter Tryz.func112, Tryz.ntmps112
 go_wp2_with fail
 refine (HF.out _ hT1.out).mono ?_;rintro e w1 ⟨rfl, b1⟩;obtain ⟨a1, a2, a3⟩ := c1.out;have d1 := cellB b1 a1;have d2 := cellB b1 a2;have d3 := cellB b1 a3;have e1 := g0.trans (b1.mono g0.size);have hr1 := hr.belowM e1 hB;have s1 := e1.size;clear a1 a2 a3 c1 b1 g0 hT1 HF
 go_wp2_with fail
 refine (put_any A c l 1 1 w1 B0 (by omega) hA hr1 (by omega) (by omega)).mono ?_;rintro e w2 ⟨v, rfl, o2, b2⟩;have d1 := cellB b2 d1;have d2 := cellB b2 d2;obtain ⟨A2, c2, rfl, hc2, hA2, hm2⟩ := ownShape o2;have n1 := put_len2 l 1 1;have hA2 : A2 = none → C.put l 1 1 = [] ∧ c2 = 0 := fun h => ⟨List.eq_nil_of_length_eq_zero (hA2 h).1, (hA2 h).2⟩
 go_wp2_with fail
 refine (put_any A2 c2 (C.put l 1 1) b 8 w2 w2.heap.size (by omega) hA2 (Rd.ofOwn o2) (Nat.le_refl _) bb).mono ?_;rintro e w3 ⟨v3, rfl, o3, b3⟩;have e2 := e1.trans (b2.mono s1);have s2 := e2.size
 go_wp2_with fail
 go_ret
 exact ⟨_, rfl, ownMore o3 s2, e2.trans (b3.mono s2)⟩
theorem vput_2 (hs : t.size ≤ 9223372036854775807) (hl : l.length ≤ 137438953472) (hA : A = none → l = [] ∧ c = 0) (hr : Rd w B0 A (bc l)) (hB : B0 ≤ w.heap.size) (hT : Tabs w) (hf : V.formed 2 b t.data.toList = true) :
 Calls Tryz.prog 112 #[.slice A l.length c, .agg #[.int .i64 2, .int .u64 (b : Int), .string t]] w (MadeB w (C.putText (C.put l 2 1) t.data.toList)) := by
 have HF := Lib.hid (fun z (hz : Tabs z) => formed_any 2 b t z hz);rw [hf] at HF;unfold V.val at HF;have hT1 := Lib.hid (show Tabs (w.alloc (.cells #[.int .i64 2, .int .u64 b, .string t] 77)) from hT.below ((Below.refl _ _).alloc (Nat.le_refl _) _));have g0 := (Below.refl w.heap.size w).alloc (Nat.le_refl _) (.cells #[.int .i64 2, .int .u64 b, .string t] 77);have c1 := Lib.hid (cell3 w (.int .i64 2) (.int .u64 b) (.string t) 77);clear hf hT
 go_enter Tryz.func112, Tryz.ntmps112
 go_wp2_with fail
 refine (HF.out _ hT1.out).mono ?_;rintro e w1 ⟨rfl, b1⟩;obtain ⟨a1, a2, a3⟩ := c1.out;have d1 := cellB b1 a1;have d2 := cellB b1 a2;have d3 := cellB b1 a3;have e1 := g0.trans (b1.mono g0.size);have hr1 := hr.belowM e1 hB;have s1 := e1.size;clear a1 a2 a3 c1 b1 g0 hT1 HF
 go_wp2_with fail
 refine (put_any A c l 2 1 w1 B0 (by omega) hA hr1 (by omega) (by omega)).mono ?_;rintro e w2 ⟨v, rfl, o2, b2⟩;have d1 := cellB b2 d1;have d3 := cellB b2 d3;obtain ⟨A2, c2, rfl, hc2, hA2, hm2⟩ := ownShape o2;have n1 := put_len2 l 2 1;have hA2 : A2 = none → C.put l 2 1 = [] ∧ c2 = 0 := fun h => ⟨List.eq_nil_of_length_eq_zero (hA2 h).1, (hA2 h).2⟩
 go_wp2_with fail
 refine (puttext_any A2 c2 (C.put l 2 1) t w2 w2.heap.size (by omega) hA2 (Rd.ofOwn o2) (Nat.le_refl _) hs).mono ?_;rintro e w3 ⟨v3, rfl, o3, b3⟩;have e2 := e1.trans (b2.mono s1);have s2 := e2.size
 go_wp2_with fail
 go_ret
 exact ⟨_, rfl, ownMore o3 s2, e2.trans (b3.mono s2)⟩
theorem rvput_none (k : Int) (bb : b < 18446744073709551616) (hl : l.length ≤ 137438953472) (hA : A = none → l = [] ∧ c = 0) (hr : Rd w B0 A (bc l)) (hB : B0 ≤ w.heap.size) (hf : V.formed k b t.data.toList = false) :
 Calls Tryz.prog 117 #[.slice A l.length c, .agg #[.int .i64 k, .int .u64 (b : Int), .string t]] w (MadeB w (l)) := by
 obtain ⟨i0, hi, hz0, hz1, hz2⟩ := info_parts info_u8;have HF := Lib.hid (fun z => rformed_any k b bb t z);rw [hf] at HF;unfold V.val at HF;obtain ⟨m, hm⟩ : ∃ m, m = l.length := ⟨_, rfl⟩;have HM := Lib.hid hm;rw [← hm] at hl ⊢;have g0 := (Below.refl w.heap.size w).alloc (Nat.le_refl _) (.cells #[.int .i64 k, .int .u64 b, .string t] 77);have hr0 := hr.belowM g0 hB;have c1 := Lib.hid (cell3 w (.int .i64 k) (.int .u64 b) (.string t) 77);clear hf hm
 go_enter Tryz.func117, Tryz.ntmps117
 obtain ⟨w0, hw0⟩ : ∃ w0, w0 = w.alloc (.cells #[.int .i64 k, .int .u64 b, .string t] 77) := ⟨_, rfl⟩;have c1 := c1.out;rw [← hw0] at c1 g0 hr0;(have S0 : Hid (w0.heap.size = w.heap.size + 1) := by show _ = _; rw [hw0]; simp)
 go_upto_region 1 with fail
 rw [← hw0];clear hw0
 go_wp2_with (at_builtin; refine wpList_append_rd _ rfl _ _ 34 rfl w0.heap.size 5 i0 (.int .u8 0) 1 Tryz.underlying34 hi hz0 hz1 hz2 rfl _ _ _ rfl (World.ownsRow_nil _ _ _ _) B0 A m c (bc l) rfl ?a1 ?a2 hr0 (bc_one l) ?a3 ?a4 ?a5 ?_)
 case a1 => rw [bc_len, HM.out]
 case a2 => exact fun h => (hA h).2
 case a3 => unfold maxLen; omega
 case a4 => omega
 case a5 => exact Nat.le_refl _
 intro v w1 hown hgrow;(have o1 : w1.ownsRow w0.heap.size 5 1 v l.length (bc l) := by rw [← HM.out]; simpa using hown);have e1 : Below w0.heap.size w0 w1 := (Below.refl _ w0).grown hgrow (Nat.le_refl _) (by intro k hk; simp [Value.ownBlock] at hk);obtain ⟨a1, a2, a3⟩ := c1;have d1 := cellB e1 a1;have d2 := cellB e1 a2;have d3 := cellB e1 a3;(have hl : l.length ≤ 137438953472 := by rw [← HM.out]; exact hl);clear hown hgrow a1 a2 a3 hr0;obtain ⟨A1, c1, rfl, hc1, hA1, hm1⟩ := ownShape o1
 go_wp2_with fail
 refine (HF.out _).mono ?_;rintro e w2 ⟨rfl, b2⟩;have d1 := cellB b2 d1;have d2 := cellB b2 d2;have d3 := cellB b2 d3;have s1 := e1.size;have o2 := ownKeptI o1 b2;have e2 := e1.trans (b2.mono s1);have s2 := e2.size;clear o1 b2 HF
 go_wp2_with fail
 go_ret
 exact ⟨_, rfl, ownMore o2 g0.size, g0.trans (e2.mono g0.size)⟩
theorem rvput_0 (bb : b < 18446744073709551616) (hl : l.length ≤ 137438953472) (hA : A = none → l = [] ∧ c = 0) (hr : Rd w B0 A (bc l)) (hB : B0 ≤ w.heap.size) (hf : V.formed 0 b t.data.toList = true) :
 Calls Tryz.prog 117 #[.slice A l.length c, .agg #[.int .i64 0, .int .u64 (b : Int), .string t]] w (MadeB w (C.put l 0 1)) := by
 obtain ⟨i0, hi, hz0, hz1, hz2⟩ := info_parts info_u8;have HF := Lib.hid (fun z => rformed_any 0 b bb t z);rw [hf] at HF;unfold V.val at HF;obtain ⟨m, hm⟩ : ∃ m, m = l.length := ⟨_, rfl⟩;have HM := Lib.hid hm;rw [← hm] at hl ⊢;have g0 := (Below.refl w.heap.size w).alloc (Nat.le_refl _) (.cells #[.int .i64 0, .int .u64 b, .string t] 77);have hr0 := hr.belowM g0 hB;have c1 := Lib.hid (cell3 w (.int .i64 0) (.int .u64 b) (.string t) 77);clear hf hm
 go_enter Tryz.func117, Tryz.ntmps117
 obtain ⟨w0, hw0⟩ : ∃ w0, w0 = w.alloc (.cells #[.int .i64 0, .int .u64 b, .string t] 77) := ⟨_, rfl⟩;have c1 := c1.out;rw [← hw0] at c1 g0 hr0;(have S0 : Hid (w0.heap.size = w.heap.size + 1) := by show _ = _; rw [hw0]; simp)
 go_upto_region 1 with fail
 rw [← hw0];clear hw0
 go_wp2_with (at_builtin; refine wpList_append_rd _ rfl _ _ 34 rfl w0.heap.size 5 i0 (.int .u8 0) 1 Tryz.underlying34 hi hz0 hz1 hz2 rfl _ _ _ rfl (World.ownsRow_nil _ _ _ _) B0 A m c (bc l) rfl ?a1 ?a2 hr0 (bc_one l) ?a3 ?a4 ?a5 ?_)
 case a1 => rw [bc_len, HM.out]
 case a2 => exact fun h => (hA h).2
 case a3 => unfold maxLen; omega
 case a4 => omega
 case a5 => exact Nat.le_refl _
 intro v w1 hown hgrow;(have o1 : w1.ownsRow w0.heap.size 5 1 v l.length (bc l) := by rw [← HM.out]; simpa using hown);have e1 : Below w0.heap.size w0 w1 := (Below.refl _ w0).grown hgrow (Nat.le_refl _) (by intro k hk; simp [Value.ownBlock] at hk);obtain ⟨a1, a2, a3⟩ := c1;have d1 := cellB e1 a1;have d2 := cellB e1 a2;have d3 := cellB e1 a3;(have hl : l.length ≤ 137438953472 := by rw [← HM.out]; exact hl);clear hown hgrow a1 a2 a3 hr0;obtain ⟨A1, c1, rfl, hc1, hA1, hm1⟩ := ownShape o1
 go_wp2_with fail
 refine (HF.out _).mono ?_;rintro e w2 ⟨rfl, b2⟩;have d1 := cellB b2 d1;have d2 := cellB b2 d2;have d3 := cellB b2 d3;have s1 := e1.size;have o2 := ownKeptI o1 b2;have e2 := e1.trans (b2.mono s1);have s2 := e2.size;clear o1 b2 HF;obtain ⟨bb0, hbb0⟩ : ∃ bb0, bb0 = UInt8.ofNat 0 := ⟨_, rfl⟩;(have HW : Hid (IntKind.u8.wrap 0 = ((bb0.toNat : Nat) : Int)) := by show _ = _; rw [hbb0]; rfl);(have HB : Hid (l ++ [bb0] = C.put l 0 1) := by show _ = _; rw [put_one, hbb0]);have hwr := HW.out;clear hbb0
 go_wp2_with (at_builtin; refine wpList_append_own _ rfl _ _ 34 rfl w0.heap.size 5 i0 (.int .u8 0) 1 1 Tryz.underlying34 hi hz0 hz1 hz2 rfl (by decide) _ _ _ rfl (o2.alloc _) ⟨w2.heap.size, 0, none⟩ 1 1 [.int .u8 ((bb0.toNat : Nat) : Int)] rfl rfl ?c1 ?c2 ?c3 ?c4 ?c5 ?_)
 case c1 => exact oneAt _ _ _
 case c2 => intro u hu; simp at hu; subst hu; rfl
 case c3 => unfold maxLen; omega
 case c4 => omega
 case c5 => simp; omega
 intro v' w3 hown' hgrow _;have d1 := hgrow.cell (cellA (.cells #[.int .u8 ((bb0.toNat : Nat) : Int)] 5) d1) (fun h => by have q : w0.heap.size ≤ w.heap.size := (o2.lt _ h.symm).1; have := S0.out; omega);have d2 := hgrow.cell (cellA (.cells #[.int .u8 ((bb0.toNat : Nat) : Int)] 5) d2) (fun h => by have q : w0.heap.size ≤ w.heap.size := (o2.lt _ h.symm).1; have := S0.out; omega);have d3 := hgrow.cell (cellA (.cells #[.int .u8 ((bb0.toNat : Nat) : Int)] 5) d3) (fun h => by have q : w0.heap.size ≤ w.heap.size := (o2.lt _ h.symm).1; have := S0.out; omega);obtain ⟨o3, e3⟩ := appB o2 e2 hown' hgrow;rw [HB.out] at o3;clear hown' hgrow o2;obtain ⟨A3, c3, rfl, hc3, hA3, hm3⟩ := ownShape o3;have n3 := put_len2 l 0 1;have s3 := e3.size;have hA3 : A3 = none → C.put l 0 1 = [] ∧ c3 = 0 := fun h => ⟨List.eq_nil_of_length_eq_zero (hA3 h).1, (hA3 h).2⟩
 go_wp2_with fail
 go_ret
 exact ⟨_, rfl, ownMore o3 g0.size, g0.trans (e3.mono g0.size)⟩
theorem rvput_1 (bb : b < 18446744073709551616) (hl : l.length ≤ 137438953472) (hA : A = none → l = [] ∧ c = 0) (hr : Rd w B0 A (bc l)) (hB : B0 ≤ w.heap.size) (hf : V.formed 1 b t.data.toList = true) :
 Calls Tryz.prog 117 #[.slice A l.length c, .agg #[.int .i64 1, .int .u64 (b : Int), .string t]] w (MadeB w (C.put (C.put l 1 1) b 8)) := by
 obtain ⟨i0, hi, hz0, hz1, hz2⟩ := info_parts info_u8;have HF := Lib.hid (fun z => rformed_any 1 b bb t z);rw [hf] at HF;unfold V.val at HF;obtain ⟨m, hm⟩ : ∃ m, m = l.length := ⟨_, rfl⟩;have HM := Lib.hid hm;rw [← hm] at hl ⊢;have g0 := (Below.refl w.heap.size w).alloc (Nat.le_refl _) (.cells #[.int .i64 1, .int .u64 b, .string t] 77);have hr0 := hr.belowM g0 hB;have c1 := Lib.hid (cell3 w (.int .i64 1) (.int .u64 b) (.string t) 77);clear hf hm
 go_enter Tryz.func117, Tryz.ntmps117
 obtain ⟨w0, hw0⟩ : ∃ w0, w0 = w.alloc (.cells #[.int .i64 1, .int .u64 b, .string t] 77) := ⟨_, rfl⟩;have c1 := c1.out;rw [← hw0] at c1 g0 hr0;(have S0 : Hid (w0.heap.size = w.heap.size + 1) := by show _ = _; rw [hw0]; simp)
 go_upto_region 1 with fail
 rw [← hw0];clear hw0
 go_wp2_with (at_builtin; refine wpList_append_rd _ rfl _ _ 34 rfl w0.heap.size 5 i0 (.int .u8 0) 1 Tryz.underlying34 hi hz0 hz1 hz2 rfl _ _ _ rfl (World.ownsRow_nil _ _ _ _) B0 A m c (bc l) rfl ?a1 ?a2 hr0 (bc_one l) ?a3 ?a4 ?a5 ?_)
 case a1 => rw [bc_len, HM.out]
 case a2 => exact fun h => (hA h).2
 case a3 => unfold maxLen; omega
 case a4 => omega
 case a5 => exact Nat.le_refl _
 intro v w1 hown hgrow;(have o1 : w1.ownsRow w0.heap.size 5 1 v l.length (bc l) := by rw [← HM.out]; simpa using hown);have e1 : Below w0.heap.size w0 w1 := (Below.refl _ w0).grown hgrow (Nat.le_refl _) (by intro k hk; simp [Value.ownBlock] at hk);obtain ⟨a1, a2, a3⟩ := c1;have d1 := cellB e1 a1;have d2 := cellB e1 a2;have d3 := cellB e1 a3;(have hl : l.length ≤ 137438953472 := by rw [← HM.out]; exact hl);clear hown hgrow a1 a2 a3 hr0;obtain ⟨A1, c1, rfl, hc1, hA1, hm1⟩ := ownShape o1
 go_wp2_with fail
 refine (HF.out _).mono ?_;rintro e w2 ⟨rfl, b2⟩;have d1 := cellB b2 d1;have d2 := cellB b2 d2;have d3 := cellB b2 d3;have s1 := e1.size;have o2 := ownKeptI o1 b2;have e2 := e1.trans (b2.mono s1);have s2 := e2.size;clear o1 b2 HF;obtain ⟨bb0, hbb0⟩ : ∃ bb0, bb0 = UInt8.ofNat 1 := ⟨_, rfl⟩;(have HW : Hid (IntKind.u8.wrap 1 = ((bb0.toNat : Nat) : Int)) := by show _ = _; rw [hbb0]; rfl);(have HB : Hid (l ++ [bb0] = C.put l 1 1) := by show _ = _; rw [put_one, hbb0]);have hwr := HW.out;clear hbb0
 go_wp2_with (at_builtin; refine wpList_append_own _ rfl _ _ 34 rfl w0.heap.size 5 i0 (.int .u8 0) 1 1 Tryz.underlying34 hi hz0 hz1 hz2 rfl (by decide) _ _ _ rfl (o2.alloc _) ⟨w2.heap.size, 0, none⟩ 1 1 [.int .u8 ((bb0.toNat : Nat) : Int)] rfl rfl ?c1 ?c2 ?c3 ?c4 ?c5 ?_)
 case c1 => exact oneAt _ _ _
 case c2 => intro u hu; simp at hu; subst hu; rfl
 case c3 => unfold maxLen; omega
 case c4 => omega
 case c5 => simp; omega
 intro v' w3 hown' hgrow _;have d1 := hgrow.cell (cellA (.cells #[.int .u8 ((bb0.toNat : Nat) : Int)] 5) d1) (fun h => by have q : w0.heap.size ≤ w.heap.size := (o2.lt _ h.symm).1; have := S0.out; omega);have d2 := hgrow.cell (cellA (.cells #[.int .u8 ((bb0.toNat : Nat) : Int)] 5) d2) (fun h => by have q : w0.heap.size ≤ w.heap.size := (o2.lt _ h.symm).1; have := S0.out; omega);have d3 := hgrow.cell (cellA (.cells #[.int .u8 ((bb0.toNat : Nat) : Int)] 5) d3) (fun h => by have q : w0.heap.size ≤ w.heap.size := (o2.lt _ h.symm).1; have := S0.out; omega);obtain ⟨o3, e3⟩ := appB o2 e2 hown' hgrow;rw [HB.out] at o3;clear hown' hgrow o2;obtain ⟨A3, c3, rfl, hc3, hA3, hm3⟩ := ownShape o3;have n3 := put_len2 l 1 1;have s3 := e3.size;have hA3 : A3 = none → C.put l 1 1 = [] ∧ c3 = 0 := fun h => ⟨List.eq_nil_of_length_eq_zero (hA3 h).1, (hA3 h).2⟩
 go_wp2_with fail
 refine (rput_any A3 c3 (C.put l 1 1) b 8 w3 w3.heap.size (by omega) hA3 (Rd.ofOwn o3) (Nat.le_refl _) bb (by omega) (by omega)).mono ?_;rintro e w4 ⟨v4, rfl, o4, b4⟩
 go_wp2_with fail
 go_ret
 exact ⟨_, rfl, ownMore o4 (Nat.le_trans g0.size s3), g0.trans ((e3.trans (b4.mono s3)).mono g0.size)⟩
theorem rvput_2 (hs : t.size ≤ 9223372036854775807) (bb : b < 18446744073709551616) (hl : l.length ≤ 137438953472) (hA : A = none → l = [] ∧ c = 0) (hr : Rd w B0 A (bc l)) (hB : B0 ≤ w.heap.size) (hf : V.formed 2 b t.data.toList = true) :
 Calls Tryz.prog 117 #[.slice A l.length c, .agg #[.int .i64 2, .int .u64 (b : Int), .string t]] w (MadeB w (C.putText (C.put l 2 1) t.data.toList)) := by
 obtain ⟨i0, hi, hz0, hz1, hz2⟩ := info_parts info_u8;have HF := Lib.hid (fun z => rformed_any 2 b bb t z);rw [hf] at HF;unfold V.val at HF;obtain ⟨m, hm⟩ : ∃ m, m = l.length := ⟨_, rfl⟩;have HM := Lib.hid hm;rw [← hm] at hl ⊢;have g0 := (Below.refl w.heap.size w).alloc (Nat.le_refl _) (.cells #[.int .i64 2, .int .u64 b, .string t] 77);have hr0 := hr.belowM g0 hB;have c1 := Lib.hid (cell3 w (.int .i64 2) (.int .u64 b) (.string t) 77);clear hf hm
 go_enter Tryz.func117, Tryz.ntmps117
 obtain ⟨w0, hw0⟩ : ∃ w0, w0 = w.alloc (.cells #[.int .i64 2, .int .u64 b, .string t] 77) := ⟨_, rfl⟩;have c1 := c1.out;rw [← hw0] at c1 g0 hr0;(have S0 : Hid (w0.heap.size = w.heap.size + 1) := by show _ = _; rw [hw0]; simp)
 go_upto_region 1 with fail
 rw [← hw0];clear hw0
 go_wp2_with (at_builtin; refine wpList_append_rd _ rfl _ _ 34 rfl w0.heap.size 5 i0 (.int .u8 0) 1 Tryz.underlying34 hi hz0 hz1 hz2 rfl _ _ _ rfl (World.ownsRow_nil _ _ _ _) B0 A m c (bc l) rfl ?a1 ?a2 hr0 (bc_one l) ?a3 ?a4 ?a5 ?_)
 case a1 => rw [bc_len, HM.out]
 case a2 => exact fun h => (hA h).2
 case a3 => unfold maxLen; omega
 case a4 => omega
 case a5 => exact Nat.le_refl _
 intro v w1 hown hgrow;(have o1 : w1.ownsRow w0.heap.size 5 1 v l.length (bc l) := by rw [← HM.out]; simpa using hown);have e1 : Below w0.heap.size w0 w1 := (Below.refl _ w0).grown hgrow (Nat.le_refl _) (by intro k hk; simp [Value.ownBlock] at hk);obtain ⟨a1, a2, a3⟩ := c1;have d1 := cellB e1 a1;have d2 := cellB e1 a2;have d3 := cellB e1 a3;(have hl : l.length ≤ 137438953472 := by rw [← HM.out]; exact hl);clear hown hgrow a1 a2 a3 hr0;obtain ⟨A1, c1, rfl, hc1, hA1, hm1⟩ := ownShape o1
 go_wp2_with fail
 refine (HF.out _).mono ?_;rintro e w2 ⟨rfl, b2⟩;have d1 := cellB b2 d1;have d2 := cellB b2 d2;have d3 := cellB b2 d3;have s1 := e1.size;have o2 := ownKeptI o1 b2;have e2 := e1.trans (b2.mono s1);have s2 := e2.size;clear o1 b2 HF;obtain ⟨bb0, hbb0⟩ : ∃ bb0, bb0 = UInt8.ofNat 2 := ⟨_, rfl⟩;(have HW : Hid (IntKind.u8.wrap 2 = ((bb0.toNat : Nat) : Int)) := by show _ = _; rw [hbb0]; rfl);(have HB : Hid (l ++ [bb0] = C.put l 2 1) := by show _ = _; rw [put_one, hbb0]);have hwr := HW.out;clear hbb0
 go_wp2_with (at_builtin; refine wpList_append_own _ rfl _ _ 34 rfl w0.heap.size 5 i0 (.int .u8 0) 1 1 Tryz.underlying34 hi hz0 hz1 hz2 rfl (by decide) _ _ _ rfl (o2.alloc _) ⟨w2.heap.size, 0, none⟩ 1 1 [.int .u8 ((bb0.toNat : Nat) : Int)] rfl rfl ?c1 ?c2 ?c3 ?c4 ?c5 ?_)
 case c1 => exact oneAt _ _ _
 case c2 => intro u hu; simp at hu; subst hu; rfl
 case c3 => unfold maxLen; omega
 case c4 => omega
 case c5 => simp; omega
 intro v' w3 hown' hgrow _;have d1 := hgrow.cell (cellA (.cells #[.int .u8 ((bb0.toNat : Nat) : Int)] 5) d1) (fun h => by have q : w0.heap.size ≤ w.heap.size := (o2.lt _ h.symm).1; have := S0.out; omega);have d2 := hgrow.cell (cellA (.cells #[.int .u8 ((bb0.toNat : Nat) : Int)] 5) d2) (fun h => by have q : w0.heap.size ≤ w.heap.size := (o2.lt _ h.symm).1; have := S0.out; omega);have d3 := hgrow.cell (cellA (.cells #[.int .u8 ((bb0.toNat : Nat) : Int)] 5) d3) (fun h => by have q : w0.heap.size ≤ w.heap.size := (o2.lt _ h.symm).1; have := S0.out; omega);obtain ⟨o3, e3⟩ := appB o2 e2 hown' hgrow;rw [HB.out] at o3;clear hown' hgrow o2;obtain ⟨A3, c3, rfl, hc3, hA3, hm3⟩ := ownShape o3;have n3 := put_len2 l 2 1;have s3 := e3.size;have hA3 : A3 = none → C.put l 2 1 = [] ∧ c3 = 0 := fun h => ⟨List.eq_nil_of_length_eq_zero (hA3 h).1, (hA3 h).2⟩
 go_wp2_with fail
 refine (rputtext_any A3 c3 (C.put l 2 1) t w3 w3.heap.size (by omega) hA3 (Rd.ofOwn o3) (Nat.le_refl _) hs).mono ?_;rintro e w4 ⟨v4, rfl, o4, b4⟩
 go_wp2_with fail
 go_ret
 exact ⟨_, rfl, ownMore o4 (Nat.le_trans g0.size s3), g0.trans ((e3.trans (b4.mono s3)).mono g0.size)⟩
theorem formed_kind {k : Int} {b : Nat} {t : List UInt8} (h : V.formed k b t = true) : k = 0 ∨ k = 1 ∨ k = 2 := by
 unfold V.formed at h
 by_cases h0 : k = 0
 ·exact .inl h0
 ·by_cases h1 : k = 1
  ·exact .inr (.inl h1)
  ·by_cases h2 : k = 2
   ·exact .inr (.inr h2)
   ·rw [if_neg h0, if_neg h1, if_neg h2] at h; exact Bool.noConfusion h
theorem vput_any (k : Int) (bb : b < 18446744073709551616) (hs : t.size ≤ 9223372036854775807) (hl : l.length ≤ 137438953472) (hA : A = none → l = [] ∧ c = 0) (hr : Rd w B0 A (bc l)) (hB : B0 ≤ w.heap.size) (hT : Tabs w) :
 Calls Tryz.prog 112 #[.slice A l.length c, V.val k b t] w (MadeB w (V.put l k b t.data.toList)) := by
 unfold V.put V.val
 cases hf : V.formed k b t.data.toList with
 | false => rw [if_neg (by simp)]; exact vput_none A c l b t w B0 k hl hA hr hB hT hf
 | true =>
   rw [if_pos rfl];rcases formed_kind hf with rfl | rfl | rfl
   ·rw [if_neg (by omega), if_neg (by omega)]; exact vput_0 A c l b t w B0 hl hA hr hB hT hf
   ·rw [if_pos rfl]; exact vput_1 A c l b t w B0 bb hl hA hr hB hT hf
   ·rw [if_neg (by omega), if_pos rfl]; exact vput_2 A c l b t w B0 hs hl hA hr hB hT hf
theorem rvput_any (k : Int) (bb : b < 18446744073709551616) (hs : t.size ≤ 9223372036854775807) (hl : l.length ≤ 137438953472) (hA : A = none → l = [] ∧ c = 0) (hr : Rd w B0 A (bc l)) (hB : B0 ≤ w.heap.size) :
 Calls Tryz.prog 117 #[.slice A l.length c, V.val k b t] w (MadeB w (V.put l k b t.data.toList)) := by
 unfold V.put V.val
 cases hf : V.formed k b t.data.toList with
 | false => rw [if_neg (by simp)]; exact rvput_none A c l b t w B0 k bb hl hA hr hB hf
 | true =>
   rw [if_pos rfl];rcases formed_kind hf with rfl | rfl | rfl
   ·rw [if_neg (by omega), if_neg (by omega)]; exact rvput_0 A c l b t w B0 bb hl hA hr hB hf
   ·rw [if_pos rfl]; exact rvput_1 A c l b t w B0 bb hl hA hr hB hf
   ·rw [if_neg (by omega), if_pos rfl]; exact rvput_2 A c l b t w B0 hs bb hl hA hr hB hf
end
end
section
open Go.RowKit Go.ChangeShapes Go.WideShapes Go.ChangeAt
theorem Cel.val {W : World} {cs : List Value} (h : Cel W 77 cs) : ∃ (k : Int) (b : Nat) (t : ByteArray), cs = [.int .i64 k, .int .u64 (b : Int), .string t] ∧ -9223372036854775808 ≤ k ∧ k ≤ 9223372036854775807 ∧ b < 18446744073709551616 ∧ t.size ≤ 9223372036854775807 := by
 have hl := h.len Tryz.underlying77;rw [show Tryz.prog.cellsOf 77 = 3 by kernel_rfl] at hl
 match cs, hl with
 | [x, y, z], _ =>
   obtain ⟨k, hk, k1, k2⟩ := (h.field1 Tryz.underlying77 0 0 3 _ rfl rfl rfl (by kernel_rfl) x rfl).i64 Tryz.underlying3;obtain ⟨b, hb, b1⟩ := (h.field1 Tryz.underlying77 1 1 31 _ rfl rfl rfl (by kernel_rfl) y rfl).u64 Tryz.underlying31;obtain ⟨t, ht, t1⟩ := (h.field1 Tryz.underlying77 2 2 9 _ rfl rfl rfl (by kernel_rfl) z rfl).string Tryz.underlying9
   cases hk; cases hb; cases ht
   exact ⟨k, b, t, rfl, k1, k2, b1, t1⟩
theorem Arg.val {W : World} {v : Value} (h : Arg W 77 v) : ∃ (k : Int) (b : Nat) (t : ByteArray), v = V.val k b t ∧ -9223372036854775808 ≤ k ∧ k ≤ 9223372036854775807 ∧ b < 18446744073709551616 ∧ t.size ≤ 9223372036854775807 := by
 obtain ⟨cs, rfl, hc⟩ := h.struct Tryz.underlying77;obtain ⟨k, b, t, e, r⟩ := hc.val;refine ⟨k, b, t, ?_, r⟩;unfold V.val
 congr 1
 apply Array.ext'
 exact e
end
section
open Go.RowKit Go.ChangeShapes Go.WideShapes Go.ChangeAt
namespace T
abbrev Rd1 := List UInt8 × Nat
abbrev Wr1 := List UInt8 × Int × Nat × List UInt8
def encR (r : Rd1) : List Value := [.string ⟨r.1.toArray⟩, .int .u64 (r.2 : Int)]
def encW (x : Wr1) : List Value := [.string ⟨x.1.toArray⟩, .int .i64 x.2.1, .int .u64 (x.2.2.1 : Int), .string ⟨x.2.2.2.toArray⟩]
def okR (r : Rd1) : Prop := r.1.length ≤ 9223372036854775807 ∧ r.2 < 18446744073709551616
def okW (x : Wr1) : Prop := x.1.length ≤ 9223372036854775807 ∧ x.2.2.1 < 18446744073709551616 ∧ x.2.2.2.length ≤ 9223372036854775807
def idb (s q : Int) : Bool := decide (1 ≤ s ∧ s ≤ 8 ∧ 1 ≤ q ∧ q ≤ 1048576)
def good (l : List (List UInt8)) (i : Nat) : Bool := V.key (l[i]?.getD []) && (decide (i = 0) || Op.bytesLess (l[i-1]?.getD []) (l[i]?.getD []))
def rises (l : List (List UInt8)) : Bool := (List.range l.length).all (good l)
def wok (x : Wr1) : Bool := V.formed x.2.1 x.2.2.1 x.2.2.2
def formed (s q : Int) (rs : List Rd1) (ws : List Wr1) : Bool :=
 idb s q && decide (rs.length ≤ 6 ∧ ws.length ≤ 6 ∧ rs.length + ws.length ≠ 0) && rises (rs.map (·.1)) && rises (ws.map (·.1)) && ws.all wok
def cformed (k s q : Int) (rs : List Rd1) (ws : List Wr1) (i j g : Int) (st : Nat) (y : Bool) : Bool :=
 if k = 0 then decide (s = 0 ∧ q = 0 ∧ rs = [] ∧ ws = [] ∧ i = 0 ∧ j = 0 ∧ g = 0 ∧ st = 0 ∧ y = false)
 else if k = 1 then formed s q rs ws && decide (i = 0 ∧ j = 0 ∧ g = 0 ∧ st = 0 ∧ y = false)
 else if k = 2 then decide (s = 0 ∧ q = 0 ∧ rs = [] ∧ ws = [] ∧ y = false) && idb i j && decide (0 ≤ g ∧ g < 4 ∧ 1 ≤ st ∧ st < 9223372036854775808)
 else if k = 3 then decide (s = 0 ∧ q = 0 ∧ rs = [] ∧ ws = [] ∧ st = 0) && idb i j && decide (0 ≤ g ∧ g < 4)
 else false
theorem rises_iff (l : List (List UInt8)) : rises l = true ↔ ∀ i, i < l.length → good l i = true := by simp [rises]
theorem rises_false (l : List (List UInt8)) (i : Nat) (hi : i < l.length) (h : good l i = false) : rises l = false := by
 cases hr : rises l with
 | false => rfl
 | true => rw [(rises_iff l).1 hr i hi] at h; exact Bool.noConfusion h
end T
open T
structure TxOk (W : World) (B : Nat) (rs : List Rd1) (ws : List Wr1) (A1 : Option Addr) (c1 : Nat) (A2 : Option Addr) (c2 : Nat) : Prop where
 r : RowsAt W B A1 2 (rs.map encR)
 w : RowsAt W B A2 4 (ws.map encW)
 rc : rs.length ≤ c1
 wc : ws.length ≤ c2
 rm : c1 ≤ maxLen
 wm : c2 ≤ maxLen
 ro : ∀ x ∈ rs, okR x
 wo : ∀ x ∈ ws, okW x
section
variable {W W' : World} {B B' : Nat} {rs : List Rd1} {ws : List Wr1} {A1 A2 : Option Addr} {c1 c2 : Nat}
theorem TxOk.below (h : TxOk W B rs ws A1 c1 A2 c2) (hb : Below B' W W') (hB : B ≤ B') : TxOk W' B rs ws A1 c1 A2 c2 := { h with r := h.r.below hb hB, w := h.w.below hb hB }
theorem TxOk.more (h : TxOk W B rs ws A1 c1 A2 c2) (hB : B ≤ B') : TxOk W B' rs ws A1 c1 A2 c2 := { h with r := h.r.more hB, w := h.w.more hB }
theorem TxOk.alloc (h : TxOk W B rs ws A1 c1 A2 c2) (hB : B ≤ W.heap.size) (o : Obj) : TxOk (W.alloc o) B rs ws A1 c1 A2 c2 := { h with r := h.r.alloc hB o, w := h.w.alloc hB o }
theorem TxOk.grown {g : Nat} (h : TxOk W B rs ws A1 c1 A2 c2) (hg : W.grownBy W' (some g)) (hB : B ≤ g) (hs : B ≤ W.heap.size) : TxOk W' B rs ws A1 c1 A2 c2 := { h with r := h.r.grown hg hB hs, w := h.w.grown hg hB hs }
theorem TxOk.zero : TxOk W B [] [] none 0 none 0 := ⟨RowsAt.nil, RowsAt.nil, Nat.le_refl _, Nat.le_refl _, by simp [maxLen], by simp [maxLen], by simp, by simp⟩
end
section
variable {W : World} {cs : List Value}
theorem Cel.rd (h : Cel W 161 cs) : ∃ r : Rd1, cs = encR r ∧ okR r := by
 have hl := h.len Tryz.underlying161;rw [show Tryz.prog.cellsOf 161 = 2 by kernel_rfl] at hl
 match cs, hl with
 | [x, y], _ =>
   obtain ⟨t, ht, t1⟩ := (h.field1 Tryz.underlying161 0 0 9 _ rfl rfl rfl (by kernel_rfl) x rfl).string Tryz.underlying9;obtain ⟨b, hb, b1⟩ := (h.field1 Tryz.underlying161 1 1 31 _ rfl rfl rfl (by kernel_rfl) y rfl).u64 Tryz.underlying31
   cases ht; cases hb
   refine ⟨(t.data.toList, b), ?_, ?_, b1⟩
   ·unfold encR; rw [str_eta]
   ·rw [str_size]; exact t1
theorem Cel.wr (h : Cel W 163 cs) : ∃ x : Wr1, cs = encW x ∧ okW x := by
 have hl := h.len Tryz.underlying163;rw [show Tryz.prog.cellsOf 163 = 4 by kernel_rfl] at hl
 match cs, hl with
 | [x, y, z, u], _ =>
   obtain ⟨t, ht, t1⟩ := (h.field1 Tryz.underlying163 0 0 9 _ rfl rfl rfl (by kernel_rfl) x rfl).string Tryz.underlying9;have hv := h.field Tryz.underlying163 1 _ rfl;rw [show Tryz.prog.cellsOf _ = 3 by kernel_rfl] at hv;obtain ⟨k, b, t', e, _, _, b1, t2⟩ := Cel.val hv;cases ht;simp at e;obtain ⟨rfl, rfl, rfl⟩ := e;refine ⟨(t.data.toList, k, b, t'.data.toList), ?_, ?_, b1, ?_⟩
   ·unfold encW; rw [str_eta, str_eta]
   ·rw [str_size]; exact t1
   ·show t'.data.toList.length ≤ _; rw [str_size]; exact t2
theorem Cel.id (h : Cel W 26 cs) : ∃ s q : Int, cs = [.int .i64 s, .int .i64 q] ∧ -9223372036854775808 ≤ s ∧ s ≤ 9223372036854775807 ∧ -9223372036854775808 ≤ q ∧ q ≤ 9223372036854775807 := by
 have hl := h.len Tryz.underlying26;rw [show Tryz.prog.cellsOf 26 = 2 by kernel_rfl] at hl
 match cs, hl with
 | [x, y], _ =>
   obtain ⟨s, hs, s1, s2⟩ := (h.field1 Tryz.underlying26 0 0 3 _ rfl rfl rfl (by kernel_rfl) x rfl).i64 Tryz.underlying3;obtain ⟨q, hq, q1, q2⟩ := (h.field1 Tryz.underlying26 1 1 3 _ rfl rfl rfl (by kernel_rfl) y rfl).i64 Tryz.underlying3
   cases hs; cases hq
   exact ⟨s, q, rfl, s1, s2, q1, q2⟩
instance : Inhabited Rd1 := ⟨([], 0)⟩
instance : Inhabited Wr1 := ⟨([], 0, 0, [])⟩
theorem Cel.txn (h : Cel W 30 cs) : ∃ (s q : Int) (rs : List Rd1) (ws : List Wr1) (A1 : Option Addr) (c1 : Nat) (A2 : Option Addr) (c2 : Nat),
 cs = [.int .i64 s, .int .i64 q, .slice A1 rs.length c1, .slice A2 ws.length c2] ∧ TxOk W W.heap.size rs ws A1 c1 A2 c2 := by
 have hl := h.len Tryz.underlying30;rw [show Tryz.prog.cellsOf 30 = 4 by kernel_rfl] at hl
 match cs, hl with
 | [x, y, z, u], _ =>
   have hi := h.field Tryz.underlying30 0 _ rfl;rw [show Tryz.prog.cellsOf _ = 2 by kernel_rfl] at hi;obtain ⟨s, q, e, _⟩ := Cel.id hi;simp at e;obtain ⟨rfl, rfl⟩ := e;have h2 := h.field1 Tryz.underlying30 1 2 27 _ rfl rfl rfl (by kernel_rfl) z rfl;have h3 := h.field1 Tryz.underlying30 2 3 28 _ rfl rfl rfl (by kernel_rfl) u rfl;obtain ⟨A1, n1, c1, rfl⟩ := h2.isSlice Tryz.underlying27;obtain ⟨A2, n2, c2, rfl⟩ := h3.isSlice Tryz.underlying28;obtain ⟨rs, r1, r2, r3, r4, r5, r6⟩ := h2.rows encR okR Tryz.underlying27 (sz := 2) (by kernel_rfl) (by omega) (fun cs hc => hc.rd);obtain ⟨ws, w1, w2, w3, w4, w5, w6⟩ := h3.rows encW okW Tryz.underlying28 (sz := 4) (by kernel_rfl) (by omega) (fun cs hc => hc.wr);subst r1; subst w1;exact ⟨s, q, rs, ws, A1, c1, A2, c2, rfl, r5, w5, r2, w2, r3, w3, r6, w6⟩
theorem Cel.cmd {t : TypeId} {fs : Array Field} (h : Cel W t cs) (ht : Tryz.prog.underlying t = some (.struct fs)) (hc : Tryz.prog.cellsOf t = 10)
 (f0 : fs[0]?.map (fun f => (f.offset, f.type)) = some (0, 3)) (f1 : fs[1]?.map (fun f => (f.offset, f.type)) = some (1, 30)) (f2 : fs[2]?.map (fun f => (f.offset, f.type)) = some (5, 26))
 (f3 : fs[3]?.map (fun f => (f.offset, f.type)) = some (7, 3)) (f4 : fs[4]?.map (fun f => (f.offset, f.type)) = some (8, 31)) (f5 : fs[5]?.map (fun f => (f.offset, f.type)) = some (9, 4)) :
 ∃ (k s q : Int) (rs : List Rd1) (ws : List Wr1) (A1 : Option Addr) (c1 : Nat) (A2 : Option Addr) (c2 : Nat) (i j g : Int) (st : Nat) (y : Bool),
 cs = [.int .i64 k, .int .i64 s, .int .i64 q, .slice A1 rs.length c1, .slice A2 ws.length c2, .int .i64 i, .int .i64 j, .int .i64 g, .int .u64 (st : Int), .bool y] ∧ TxOk W W.heap.size rs ws A1 c1 A2 c2 ∧ st < 18446744073709551616 ∧
  (-9223372036854775808 ≤ k ∧ k ≤ 9223372036854775807) ∧ (-9223372036854775808 ≤ g ∧ g ≤ 9223372036854775807) := by
 have hl := h.len ht;rw [hc] at hl
 match cs, hl with
 | [v0, v1, v2, v3, v4, v5, v6, v7, v8, v9], _ =>
   obtain ⟨F0, e0, e0'⟩ := Option.map_eq_some_iff.1 f0;obtain ⟨F1, e1, e1'⟩ := Option.map_eq_some_iff.1 f1;obtain ⟨F2, e2, e2'⟩ := Option.map_eq_some_iff.1 f2;obtain ⟨F3, e3, e3'⟩ := Option.map_eq_some_iff.1 f3;obtain ⟨F4, e4, e4'⟩ := Option.map_eq_some_iff.1 f4;obtain ⟨F5, e5, e5'⟩ := Option.map_eq_some_iff.1 f5;simp only [Prod.mk.injEq] at e0' e1' e2' e3' e4' e5';obtain ⟨k, hk, kb⟩ := (h.field1 ht 0 0 3 F0 e0 e0'.1 e0'.2 (by kernel_rfl) v0 rfl).i64 Tryz.underlying3;obtain ⟨g, hg, gb⟩ := (h.field1 ht 3 7 3 F3 e3 e3'.1 e3'.2 (by kernel_rfl) v7 rfl).i64 Tryz.underlying3;obtain ⟨st, hst, sb⟩ := (h.field1 ht 4 8 31 F4 e4 e4'.1 e4'.2 (by kernel_rfl) v8 rfl).u64 Tryz.underlying31;obtain ⟨y, hy⟩ := (h.field1 ht 5 9 4 F5 e5 e5'.1 e5'.2 (by kernel_rfl) v9 rfl).bool Tryz.underlying4;have h1 := h.field ht 1 F1 e1;rw [e1'.1, e1'.2, show Tryz.prog.cellsOf 30 = 4 by kernel_rfl] at h1;obtain ⟨s, q, rs, ws, A1, c1, A2, c2, et, ok⟩ := Cel.txn h1;have h2 := h.field ht 2 F2 e2;rw [e2'.1, e2'.2, show Tryz.prog.cellsOf 26 = 2 by kernel_rfl] at h2;obtain ⟨i, j, ei, _⟩ := Cel.id h2
   cases hk; cases hg; cases hst; cases hy
   simp at et ei;obtain ⟨rfl, rfl, rfl, rfl⟩ := et;obtain ⟨rfl, rfl⟩ := ei;exact ⟨k, s, q, rs, ws, A1, c1, A2, c2, i, j, g, st, y, rfl, ok, sb, kb, gb⟩
end
end
section
open Go.RowKit T
namespace T
structure Cm where
 k : Int
 s : Int
 q : Int
 rs : List Rd1
 ws : List Wr1
 A1 : Option Addr
 c1 : Nat
 A2 : Option Addr
 c2 : Nat
 i : Int
 j : Int
 g : Int
 st : Nat
 y : Bool
def Cm.cells (x : Cm) : List Value := [.int .i64 x.k, .int .i64 x.s, .int .i64 x.q, .slice x.A1 x.rs.length x.c1, .slice x.A2 x.ws.length x.c2, .int .i64 x.i, .int .i64 x.j, .int .i64 x.g, .int .u64 (x.st : Int), .bool x.y]
theorem Cm.cells_len (x : Cm) : x.cells.length = 10 := rfl
def Cm.zero : Cm := ⟨0, 0, 0, [], [], none, 0, none, 0, 0, 0, 0, 0, false⟩
end T
def CmOk (w : World) (B : Nat) (x : Cm) : Prop := TxOk w B x.rs x.ws x.A1 x.c1 x.A2 x.c2
theorem CmOk.below {w w' : World} {B B' : Nat} {x : Cm} (h : CmOk w B x) (hb : Below B' w w') (hB : B ≤ B') : CmOk w' B x := TxOk.below h hb hB
theorem CmOk.alloc {w : World} {B : Nat} {x : Cm} (h : CmOk w B x) (hB : B ≤ w.heap.size) (o : Obj) : CmOk (w.alloc o) B x := TxOk.alloc h hB o
theorem CmOk.more {w : World} {B B' : Nat} {x : Cm} (h : CmOk w B x) (hB : B ≤ B') : CmOk w B' x := TxOk.more h hB
theorem CmOk.zero {w : World} {B : Nat} : CmOk w B Cm.zero := TxOk.zero
namespace T
def Cm.formed (x : Cm) : Bool := T.cformed x.k x.s x.q x.rs x.ws x.i x.j x.g x.st x.y
end T
def SameC (x y : Cm) : Bool := decide (x.k = y.k ∧ (x.i = y.i ∧ x.j = y.j) ∧ x.g = y.g ∧ x.st = y.st ∧ x.y = y.y ∧ x.s = y.s ∧ x.q = y.q ∧ x.rs = y.rs ∧ x.ws = y.ws)
theorem SameC.refl (x : Cm) : SameC x x = true := by simp [SameC]
theorem cformed_k {x : Cm} (h : x.formed = true) : x.k = 0 ∨ x.k = 1 ∨ x.k = 2 ∨ x.k = 3 := by
 unfold Cm.formed T.cformed at h
 by_cases h0 : x.k = 0
 ·exact .inl h0
 ·by_cases h1 : x.k = 1
  ·exact .inr (.inl h1)
  ·by_cases h2 : x.k = 2
   ·exact .inr (.inr (.inl h2))
   ·by_cases h3 : x.k = 3
    ·exact .inr (.inr (.inr h3))
    ·rw [if_neg h0, if_neg h1, if_neg h2, if_neg h3] at h; exact Bool.noConfusion h
theorem cformed_0 {x : Cm} (h : x.formed = true) (hk : x.k = 0) : SameC x Cm.zero = true := by
 unfold Cm.formed T.cformed at h;rw [if_pos hk] at h;have h := of_decide_eq_true h;obtain ⟨h1, h2, h3, h4, h5, h6, h7, h8, h9⟩ := h;exact decide_eq_true ⟨hk, ⟨h5, h6⟩, h7, h8, h9, h1, h2, h3, h4⟩
theorem cformed_1 {x : Cm} (h : x.formed = true) (hk : x.k = 1) : T.formed x.s x.q x.rs x.ws = true ∧ x.i = 0 ∧ x.j = 0 ∧ x.g = 0 ∧ x.st = 0 ∧ x.y = false := by
 unfold Cm.formed T.cformed at h;rw [if_neg (by omega), if_pos hk, Bool.and_eq_true, decide_eq_true_eq] at h;exact h
theorem cformed_2 {x : Cm} (h : x.formed = true) (hk : x.k = 2) : (x.s = 0 ∧ x.q = 0 ∧ x.rs = [] ∧ x.ws = [] ∧ x.y = false) ∧ T.idb x.i x.j = true ∧ 0 ≤ x.g ∧ x.g < 4 ∧ 1 ≤ x.st ∧ x.st < 9223372036854775808 := by
 unfold Cm.formed T.cformed at h;rw [if_neg (by omega), if_neg (by omega), if_pos hk, Bool.and_eq_true, Bool.and_eq_true, decide_eq_true_eq, decide_eq_true_eq] at h;exact ⟨h.1.1, h.1.2, h.2⟩
theorem cformed_3 {x : Cm} (h : x.formed = true) (hk : x.k = 3) : (x.s = 0 ∧ x.q = 0 ∧ x.rs = [] ∧ x.ws = [] ∧ x.st = 0) ∧ T.idb x.i x.j = true ∧ 0 ≤ x.g ∧ x.g < 4 := by
 unfold Cm.formed T.cformed at h;rw [if_neg (by omega), if_neg (by omega), if_neg (by omega), if_pos hk, Bool.and_eq_true, Bool.and_eq_true, decide_eq_true_eq, decide_eq_true_eq] at h;exact ⟨h.1.1, h.1.2, h.2⟩
theorem Cm.one (x : Cm) : x.cells.toArray.all (·.oneCell') = true := by simp [Cm.cells, Value.oneCell']
theorem sizeCm : (Tryz.prog.info? 33).map (·.size) = some 10 := by kernel_rfl
theorem sizeRCm : (Tryz.prog.info? 45).map (·.size) = some 10 := by kernel_rfl
end
end Go.Proofs.YthclniimhpmeoaaGreatDoor
