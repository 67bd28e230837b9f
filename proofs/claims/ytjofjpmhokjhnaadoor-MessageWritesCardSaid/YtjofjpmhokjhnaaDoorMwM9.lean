/- A value that came in as an argument. No condition. -/
import Derived.Test.YtjofjpmhokjhnaaDoorMwM5
import Derived.Test.YtjofjpmhokjhnaaDoorMwM8
import Derived.Test.YtjofjpmhokjhnaaDoorMwM1
import Derived.Test.YtjofjpmhokjhnaaDoorMwM7
namespace Go.Proofs.YtjofjpmhokjhnaaDoor
set_option maxRecDepth 20000
open Go.RowKit
set_option linter.unusedSimpArgs false
set_option linter.unusedVariables false

/-- a value's bytes behind bytes -/
def V.put (l : List UInt8) (k : Int) (b : Nat) (t : List UInt8) : List UInt8 :=
  if V.formed k b t = true then (if k = 1 then C.put (C.put l 1 1) b 8 else if k = 2 then C.putText (C.put l 2 1) t else C.put l 0 1) else l
theorem put_len2 (l : List UInt8) (x : Nat) (n : Int) : (C.put l x n).length ≤ l.length + 8 := by unfold C.put; rw [List.length_append, C.be_len]; have := C.clamp8_le n; omega
theorem puttext_len (l : List UInt8) (t : List UInt8) : (C.putText l t).length ≤ l.length + 65537 := by
  unfold C.putText; simp only [List.length_append, C.be_len, List.length_take]; omega
theorem V.put_len (l : List UInt8) (k : Int) (b : Nat) (t : List UInt8) : (V.put l k b t).length ≤ l.length + 65545 := by
  unfold V.put
  have h0 := put_len2 l 0 1
  have h1 := put_len2 l 1 1
  have h2 := put_len2 (C.put l 1 1) b 8
  have h3 := put_len2 l 2 1
  have h4 := puttext_len (C.put l 2 1) t
  split
  · split
    · omega
    · split <;> omega
  · omega

section
variable (A : Option Addr) (c : Nat) (l : List UInt8) (b : Nat) (t : ByteArray) (w : World) (B0 : Nat)
set_option maxHeartbeats 1600000 in
theorem vput_none (k : Int) (hl : l.length ≤ 137438953472) (hA : A = none → l = [] ∧ c = 0) (hr : Rd w B0 A (bc l)) (hB : B0 ≤ w.heap.size) (hT : Tabs w) (hf : V.formed k b t.data.toList = false) :
    Calls Tryd.prog 68 #[.slice A l.length c, .agg #[.int .i64 k, .int .u64 (b : Int), .string t]] w (MadeB w (l)) := by
  have HF := Lib.hid (fun z (hz : Tabs z) => formed_any k b t z hz)
  rw [hf] at HF
  unfold V.val at HF
  have hT1 := Lib.hid (show Tabs (w.alloc (.cells #[.int .i64 k, .int .u64 b, .string t] 35)) from hT.below ((Below.refl _ _).alloc (Nat.le_refl _) _))
  have g0 := (Below.refl w.heap.size w).alloc (Nat.le_refl _) (.cells #[.int .i64 k, .int .u64 b, .string t] 35)
  have c1 := Lib.hid (cell3 w (.int .i64 k) (.int .u64 b) (.string t) 35)
  clear hf hT
  go_enter Tryd.func68, Tryd.ntmps68
  go_wp2_with fail
  refine (HF.out _ hT1.out).mono ?_
  rintro e w1 ⟨rfl, b1⟩
  obtain ⟨a1, a2, a3⟩ := c1.out
  have d1 := cellB b1 a1
  have d2 := cellB b1 a2
  have d3 := cellB b1 a3
  have e1 := g0.trans (b1.mono g0.size)
  have hr1 := hr.belowM e1 hB
  have s1 := e1.size
  clear a1 a2 a3 c1 b1 g0 hT1 HF
  go_wp2_with fail
  refine (clone_any A c l w1 B0 (by omega) hA hr1 (by omega)).mono ?_
  rintro e w2 ⟨v, rfl, o2, b2⟩
  go_wp2_with fail
  go_ret
  exact ⟨_, rfl, ownMore o2 s1, e1.trans (b2.mono s1)⟩
set_option maxHeartbeats 1600000 in
theorem vput_0 (hl : l.length ≤ 137438953472) (hA : A = none → l = [] ∧ c = 0) (hr : Rd w B0 A (bc l)) (hB : B0 ≤ w.heap.size) (hT : Tabs w) (hf : V.formed 0 b t.data.toList = true) :
    Calls Tryd.prog 68 #[.slice A l.length c, .agg #[.int .i64 0, .int .u64 (b : Int), .string t]] w (MadeB w (C.put l 0 1)) := by
  have HF := Lib.hid (fun z (hz : Tabs z) => formed_any 0 b t z hz)
  rw [hf] at HF
  unfold V.val at HF
  have hT1 := Lib.hid (show Tabs (w.alloc (.cells #[.int .i64 0, .int .u64 b, .string t] 35)) from hT.below ((Below.refl _ _).alloc (Nat.le_refl _) _))
  have g0 := (Below.refl w.heap.size w).alloc (Nat.le_refl _) (.cells #[.int .i64 0, .int .u64 b, .string t] 35)
  have c1 := Lib.hid (cell3 w (.int .i64 0) (.int .u64 b) (.string t) 35)
  clear hf hT
  go_enter Tryd.func68, Tryd.ntmps68
  go_wp2_with fail
  refine (HF.out _ hT1.out).mono ?_
  rintro e w1 ⟨rfl, b1⟩
  obtain ⟨a1, a2, a3⟩ := c1.out
  have d1 := cellB b1 a1
  have d2 := cellB b1 a2
  have d3 := cellB b1 a3
  have e1 := g0.trans (b1.mono g0.size)
  have hr1 := hr.belowM e1 hB
  have s1 := e1.size
  clear a1 a2 a3 c1 b1 g0 hT1 HF
  go_wp2_with fail
  refine (put_any A c l 0 1 w1 B0 (by omega) hA hr1 (by omega) (by omega)).mono ?_
  rintro e w2 ⟨v, rfl, o2, b2⟩
  have d1 := cellB b2 d1
  go_wp2_with fail
  go_ret
  exact ⟨_, rfl, ownMore o2 s1, e1.trans (b2.mono s1)⟩
set_option maxHeartbeats 1600000 in
theorem vput_1 (bb : b < 18446744073709551616) (hl : l.length ≤ 137438953472) (hA : A = none → l = [] ∧ c = 0) (hr : Rd w B0 A (bc l)) (hB : B0 ≤ w.heap.size) (hT : Tabs w) (hf : V.formed 1 b t.data.toList = true) :
    Calls Tryd.prog 68 #[.slice A l.length c, .agg #[.int .i64 1, .int .u64 (b : Int), .string t]] w (MadeB w (C.put (C.put l 1 1) b 8)) := by
  have HF := Lib.hid (fun z (hz : Tabs z) => formed_any 1 b t z hz)
  rw [hf] at HF
  unfold V.val at HF
  have hT1 := Lib.hid (show Tabs (w.alloc (.cells #[.int .i64 1, .int .u64 b, .string t] 35)) from hT.below ((Below.refl _ _).alloc (Nat.le_refl _) _))
  have g0 := (Below.refl w.heap.size w).alloc (Nat.le_refl _) (.cells #[.int .i64 1, .int .u64 b, .string t] 35)
  have c1 := Lib.hid (cell3 w (.int .i64 1) (.int .u64 b) (.string t) 35)
  clear hf hT
  go_enter Tryd.func68, Tryd.ntmps68
  go_wp2_with fail
  refine (HF.out _ hT1.out).mono ?_
  rintro e w1 ⟨rfl, b1⟩
  obtain ⟨a1, a2, a3⟩ := c1.out
  have d1 := cellB b1 a1
  have d2 := cellB b1 a2
  have d3 := cellB b1 a3
  have e1 := g0.trans (b1.mono g0.size)
  have hr1 := hr.belowM e1 hB
  have s1 := e1.size
  clear a1 a2 a3 c1 b1 g0 hT1 HF
  go_wp2_with fail
  refine (put_any A c l 1 1 w1 B0 (by omega) hA hr1 (by omega) (by omega)).mono ?_
  rintro e w2 ⟨v, rfl, o2, b2⟩
  have d1 := cellB b2 d1
  have d2 := cellB b2 d2
  obtain ⟨A2, c2, rfl, hc2, hA2, hm2⟩ := ownShape o2
  have n1 := put_len2 l 1 1
  have hA2 : A2 = none → C.put l 1 1 = [] ∧ c2 = 0 := fun h => ⟨List.eq_nil_of_length_eq_zero (hA2 h).1, (hA2 h).2⟩
  go_wp2_with fail
  refine (put_any A2 c2 (C.put l 1 1) b 8 w2 w2.heap.size (by omega) hA2 (Rd.ofOwn o2) (Nat.le_refl _) bb).mono ?_
  rintro e w3 ⟨v3, rfl, o3, b3⟩
  have e2 := e1.trans (b2.mono s1)
  have s2 := e2.size
  go_wp2_with fail
  go_ret
  exact ⟨_, rfl, ownMore o3 s2, e2.trans (b3.mono s2)⟩
set_option maxHeartbeats 1600000 in
theorem vput_2 (hs : t.size ≤ 9223372036854775807) (hl : l.length ≤ 137438953472) (hA : A = none → l = [] ∧ c = 0) (hr : Rd w B0 A (bc l)) (hB : B0 ≤ w.heap.size) (hT : Tabs w) (hf : V.formed 2 b t.data.toList = true) :
    Calls Tryd.prog 68 #[.slice A l.length c, .agg #[.int .i64 2, .int .u64 (b : Int), .string t]] w (MadeB w (C.putText (C.put l 2 1) t.data.toList)) := by
  have HF := Lib.hid (fun z (hz : Tabs z) => formed_any 2 b t z hz)
  rw [hf] at HF
  unfold V.val at HF
  have hT1 := Lib.hid (show Tabs (w.alloc (.cells #[.int .i64 2, .int .u64 b, .string t] 35)) from hT.below ((Below.refl _ _).alloc (Nat.le_refl _) _))
  have g0 := (Below.refl w.heap.size w).alloc (Nat.le_refl _) (.cells #[.int .i64 2, .int .u64 b, .string t] 35)
  have c1 := Lib.hid (cell3 w (.int .i64 2) (.int .u64 b) (.string t) 35)
  clear hf hT
  go_enter Tryd.func68, Tryd.ntmps68
  go_wp2_with fail
  refine (HF.out _ hT1.out).mono ?_
  rintro e w1 ⟨rfl, b1⟩
  obtain ⟨a1, a2, a3⟩ := c1.out
  have d1 := cellB b1 a1
  have d2 := cellB b1 a2
  have d3 := cellB b1 a3
  have e1 := g0.trans (b1.mono g0.size)
  have hr1 := hr.belowM e1 hB
  have s1 := e1.size
  clear a1 a2 a3 c1 b1 g0 hT1 HF
  go_wp2_with fail
  refine (put_any A c l 2 1 w1 B0 (by omega) hA hr1 (by omega) (by omega)).mono ?_
  rintro e w2 ⟨v, rfl, o2, b2⟩
  have d1 := cellB b2 d1
  have d3 := cellB b2 d3
  obtain ⟨A2, c2, rfl, hc2, hA2, hm2⟩ := ownShape o2
  have n1 := put_len2 l 2 1
  have hA2 : A2 = none → C.put l 2 1 = [] ∧ c2 = 0 := fun h => ⟨List.eq_nil_of_length_eq_zero (hA2 h).1, (hA2 h).2⟩
  go_wp2_with fail
  refine (puttext_any A2 c2 (C.put l 2 1) t w2 w2.heap.size (by omega) hA2 (Rd.ofOwn o2) (Nat.le_refl _) hs).mono ?_
  rintro e w3 ⟨v3, rfl, o3, b3⟩
  have e2 := e1.trans (b2.mono s1)
  have s2 := e2.size
  go_wp2_with fail
  go_ret
  exact ⟨_, rfl, ownMore o3 s2, e2.trans (b3.mono s2)⟩
set_option maxHeartbeats 1600000 in
theorem rvput_none (k : Int) (bb : b < 18446744073709551616) (hl : l.length ≤ 137438953472) (hA : A = none → l = [] ∧ c = 0) (hr : Rd w B0 A (bc l)) (hB : B0 ≤ w.heap.size) (hf : V.formed k b t.data.toList = false) :
    Calls Tryd.prog 76 #[.slice A l.length c, .agg #[.int .i64 k, .int .u64 (b : Int), .string t]] w (MadeB w (l)) := by
  obtain ⟨i0, hi, hz0, hz1, hz2⟩ := info_parts info_u8
  have HF := Lib.hid (fun z => rformed_any k b bb t z)
  rw [hf] at HF
  unfold V.val at HF
  obtain ⟨m, hm⟩ : ∃ m, m = l.length := ⟨_, rfl⟩
  have HM := Lib.hid hm
  rw [← hm] at hl ⊢
  have g0 := (Below.refl w.heap.size w).alloc (Nat.le_refl _) (.cells #[.int .i64 k, .int .u64 b, .string t] 35)
  have hr0 := hr.belowM g0 hB
  have c1 := Lib.hid (cell3 w (.int .i64 k) (.int .u64 b) (.string t) 35)
  clear hf hm
  go_enter Tryd.func76, Tryd.ntmps76
  obtain ⟨w0, hw0⟩ : ∃ w0, w0 = w.alloc (.cells #[.int .i64 k, .int .u64 b, .string t] 35) := ⟨_, rfl⟩
  have c1 := c1.out
  rw [← hw0] at c1 g0 hr0
  have S0 : Hid (w0.heap.size = w.heap.size + 1) := by show _ = _; rw [hw0]; simp
  go_upto_region 1 with fail
  rw [← hw0]
  clear hw0
  go_wp2_with (at_builtin; refine wpList_append_rd _ rfl _ _ 37 rfl w0.heap.size 5 i0 (.int .u8 0) 1 Tryd.underlying37 hi hz0 hz1 hz2 rfl _ _ _ rfl (World.ownsRow_nil _ _ _ _) B0 A m c (bc l) rfl ?a1 ?a2 hr0 (bc_one l) ?a3 ?a4 ?a5 ?_)
  case a1 => rw [bc_len, HM.out]
  case a2 => exact fun h => (hA h).2
  case a3 => unfold maxLen; omega
  case a4 => omega
  case a5 => exact Nat.le_refl _
  intro v w1 hown hgrow
  have o1 : w1.ownsRow w0.heap.size 5 1 v l.length (bc l) := by rw [← HM.out]; simpa using hown
  have e1 : Below w0.heap.size w0 w1 := (Below.refl _ w0).grown hgrow (Nat.le_refl _) (by intro k hk; simp [Value.ownBlock] at hk)
  obtain ⟨a1, a2, a3⟩ := c1
  have d1 := cellB e1 a1
  have d2 := cellB e1 a2
  have d3 := cellB e1 a3
  have hl : l.length ≤ 137438953472 := by rw [← HM.out]; exact hl
  clear hown hgrow a1 a2 a3 hr0
  obtain ⟨A1, c1, rfl, hc1, hA1, hm1⟩ := ownShape o1
  go_wp2_with fail
  refine (HF.out _).mono ?_
  rintro e w2 ⟨rfl, b2⟩
  have d1 := cellB b2 d1
  have d2 := cellB b2 d2
  have d3 := cellB b2 d3
  have s1 := e1.size
  have o2 := ownKeptI o1 b2
  have e2 := e1.trans (b2.mono s1)
  have s2 := e2.size
  clear o1 b2 HF
  go_wp2_with fail
  go_ret
  exact ⟨_, rfl, ownMore o2 g0.size, g0.trans (e2.mono g0.size)⟩
set_option maxHeartbeats 1600000 in
theorem rvput_0 (bb : b < 18446744073709551616) (hl : l.length ≤ 137438953472) (hA : A = none → l = [] ∧ c = 0) (hr : Rd w B0 A (bc l)) (hB : B0 ≤ w.heap.size) (hf : V.formed 0 b t.data.toList = true) :
    Calls Tryd.prog 76 #[.slice A l.length c, .agg #[.int .i64 0, .int .u64 (b : Int), .string t]] w (MadeB w (C.put l 0 1)) := by
  obtain ⟨i0, hi, hz0, hz1, hz2⟩ := info_parts info_u8
  have HF := Lib.hid (fun z => rformed_any 0 b bb t z)
  rw [hf] at HF
  unfold V.val at HF
  obtain ⟨m, hm⟩ : ∃ m, m = l.length := ⟨_, rfl⟩
  have HM := Lib.hid hm
  rw [← hm] at hl ⊢
  have g0 := (Below.refl w.heap.size w).alloc (Nat.le_refl _) (.cells #[.int .i64 0, .int .u64 b, .string t] 35)
  have hr0 := hr.belowM g0 hB
  have c1 := Lib.hid (cell3 w (.int .i64 0) (.int .u64 b) (.string t) 35)
  clear hf hm
  go_enter Tryd.func76, Tryd.ntmps76
  obtain ⟨w0, hw0⟩ : ∃ w0, w0 = w.alloc (.cells #[.int .i64 0, .int .u64 b, .string t] 35) := ⟨_, rfl⟩
  have c1 := c1.out
  rw [← hw0] at c1 g0 hr0
  have S0 : Hid (w0.heap.size = w.heap.size + 1) := by show _ = _; rw [hw0]; simp
  go_upto_region 1 with fail
  rw [← hw0]
  clear hw0
  go_wp2_with (at_builtin; refine wpList_append_rd _ rfl _ _ 37 rfl w0.heap.size 5 i0 (.int .u8 0) 1 Tryd.underlying37 hi hz0 hz1 hz2 rfl _ _ _ rfl (World.ownsRow_nil _ _ _ _) B0 A m c (bc l) rfl ?a1 ?a2 hr0 (bc_one l) ?a3 ?a4 ?a5 ?_)
  case a1 => rw [bc_len, HM.out]
  case a2 => exact fun h => (hA h).2
  case a3 => unfold maxLen; omega
  case a4 => omega
  case a5 => exact Nat.le_refl _
  intro v w1 hown hgrow
  have o1 : w1.ownsRow w0.heap.size 5 1 v l.length (bc l) := by rw [← HM.out]; simpa using hown
  have e1 : Below w0.heap.size w0 w1 := (Below.refl _ w0).grown hgrow (Nat.le_refl _) (by intro k hk; simp [Value.ownBlock] at hk)
  obtain ⟨a1, a2, a3⟩ := c1
  have d1 := cellB e1 a1
  have d2 := cellB e1 a2
  have d3 := cellB e1 a3
  have hl : l.length ≤ 137438953472 := by rw [← HM.out]; exact hl
  clear hown hgrow a1 a2 a3 hr0
  obtain ⟨A1, c1, rfl, hc1, hA1, hm1⟩ := ownShape o1
  go_wp2_with fail
  refine (HF.out _).mono ?_
  rintro e w2 ⟨rfl, b2⟩
  have d1 := cellB b2 d1
  have d2 := cellB b2 d2
  have d3 := cellB b2 d3
  have s1 := e1.size
  have o2 := ownKeptI o1 b2
  have e2 := e1.trans (b2.mono s1)
  have s2 := e2.size
  clear o1 b2 HF
  obtain ⟨bb0, hbb0⟩ : ∃ bb0, bb0 = UInt8.ofNat 0 := ⟨_, rfl⟩
  have HW : Hid (IntKind.u8.wrap 0 = ((bb0.toNat : Nat) : Int)) := by show _ = _; rw [hbb0]; rfl
  have HB : Hid (l ++ [bb0] = C.put l 0 1) := by show _ = _; rw [put_one, hbb0]
  have hwr := HW.out
  clear hbb0
  go_wp2_with (at_builtin; refine wpList_append_own _ rfl _ _ 37 rfl w0.heap.size 5 i0 (.int .u8 0) 1 1 Tryd.underlying37 hi hz0 hz1 hz2 rfl (by decide) _ _ _ rfl (o2.alloc _) ⟨w2.heap.size, 0, none⟩ 1 1 [.int .u8 ((bb0.toNat : Nat) : Int)] rfl rfl ?c1 ?c2 ?c3 ?c4 ?c5 ?_)
  case c1 => exact oneAt _ _ _
  case c2 => intro u hu; simp at hu; subst hu; rfl
  case c3 => unfold maxLen; omega
  case c4 => omega
  case c5 => simp; omega
  intro v' w3 hown' hgrow _
  have d1 := hgrow.cell (cellA (.cells #[.int .u8 ((bb0.toNat : Nat) : Int)] 5) d1) (fun h => by have q : w0.heap.size ≤ w.heap.size := (o2.lt _ h.symm).1; have := S0.out; omega)
  have d2 := hgrow.cell (cellA (.cells #[.int .u8 ((bb0.toNat : Nat) : Int)] 5) d2) (fun h => by have q : w0.heap.size ≤ w.heap.size := (o2.lt _ h.symm).1; have := S0.out; omega)
  have d3 := hgrow.cell (cellA (.cells #[.int .u8 ((bb0.toNat : Nat) : Int)] 5) d3) (fun h => by have q : w0.heap.size ≤ w.heap.size := (o2.lt _ h.symm).1; have := S0.out; omega)
  obtain ⟨o3, e3⟩ := appB o2 e2 hown' hgrow
  rw [HB.out] at o3
  clear hown' hgrow o2
  obtain ⟨A3, c3, rfl, hc3, hA3, hm3⟩ := ownShape o3
  have n3 := put_len2 l 0 1
  have s3 := e3.size
  have hA3 : A3 = none → C.put l 0 1 = [] ∧ c3 = 0 := fun h => ⟨List.eq_nil_of_length_eq_zero (hA3 h).1, (hA3 h).2⟩
  go_wp2_with fail
  go_ret
  exact ⟨_, rfl, ownMore o3 g0.size, g0.trans (e3.mono g0.size)⟩
set_option maxHeartbeats 1600000 in
theorem rvput_1 (bb : b < 18446744073709551616) (hl : l.length ≤ 137438953472) (hA : A = none → l = [] ∧ c = 0) (hr : Rd w B0 A (bc l)) (hB : B0 ≤ w.heap.size) (hf : V.formed 1 b t.data.toList = true) :
    Calls Tryd.prog 76 #[.slice A l.length c, .agg #[.int .i64 1, .int .u64 (b : Int), .string t]] w (MadeB w (C.put (C.put l 1 1) b 8)) := by
  obtain ⟨i0, hi, hz0, hz1, hz2⟩ := info_parts info_u8
  have HF := Lib.hid (fun z => rformed_any 1 b bb t z)
  rw [hf] at HF
  unfold V.val at HF
  obtain ⟨m, hm⟩ : ∃ m, m = l.length := ⟨_, rfl⟩
  have HM := Lib.hid hm
  rw [← hm] at hl ⊢
  have g0 := (Below.refl w.heap.size w).alloc (Nat.le_refl _) (.cells #[.int .i64 1, .int .u64 b, .string t] 35)
  have hr0 := hr.belowM g0 hB
  have c1 := Lib.hid (cell3 w (.int .i64 1) (.int .u64 b) (.string t) 35)
  clear hf hm
  go_enter Tryd.func76, Tryd.ntmps76
  obtain ⟨w0, hw0⟩ : ∃ w0, w0 = w.alloc (.cells #[.int .i64 1, .int .u64 b, .string t] 35) := ⟨_, rfl⟩
  have c1 := c1.out
  rw [← hw0] at c1 g0 hr0
  have S0 : Hid (w0.heap.size = w.heap.size + 1) := by show _ = _; rw [hw0]; simp
  go_upto_region 1 with fail
  rw [← hw0]
  clear hw0
  go_wp2_with (at_builtin; refine wpList_append_rd _ rfl _ _ 37 rfl w0.heap.size 5 i0 (.int .u8 0) 1 Tryd.underlying37 hi hz0 hz1 hz2 rfl _ _ _ rfl (World.ownsRow_nil _ _ _ _) B0 A m c (bc l) rfl ?a1 ?a2 hr0 (bc_one l) ?a3 ?a4 ?a5 ?_)
  case a1 => rw [bc_len, HM.out]
  case a2 => exact fun h => (hA h).2
  case a3 => unfold maxLen; omega
  case a4 => omega
  case a5 => exact Nat.le_refl _
  intro v w1 hown hgrow
  have o1 : w1.ownsRow w0.heap.size 5 1 v l.length (bc l) := by rw [← HM.out]; simpa using hown
  have e1 : Below w0.heap.size w0 w1 := (Below.refl _ w0).grown hgrow (Nat.le_refl _) (by intro k hk; simp [Value.ownBlock] at hk)
  obtain ⟨a1, a2, a3⟩ := c1
  have d1 := cellB e1 a1
  have d2 := cellB e1 a2
  have d3 := cellB e1 a3
  have hl : l.length ≤ 137438953472 := by rw [← HM.out]; exact hl
  clear hown hgrow a1 a2 a3 hr0
  obtain ⟨A1, c1, rfl, hc1, hA1, hm1⟩ := ownShape o1
  go_wp2_with fail
  refine (HF.out _).mono ?_
  rintro e w2 ⟨rfl, b2⟩
  have d1 := cellB b2 d1
  have d2 := cellB b2 d2
  have d3 := cellB b2 d3
  have s1 := e1.size
  have o2 := ownKeptI o1 b2
  have e2 := e1.trans (b2.mono s1)
  have s2 := e2.size
  clear o1 b2 HF
  obtain ⟨bb0, hbb0⟩ : ∃ bb0, bb0 = UInt8.ofNat 1 := ⟨_, rfl⟩
  have HW : Hid (IntKind.u8.wrap 1 = ((bb0.toNat : Nat) : Int)) := by show _ = _; rw [hbb0]; rfl
  have HB : Hid (l ++ [bb0] = C.put l 1 1) := by show _ = _; rw [put_one, hbb0]
  have hwr := HW.out
  clear hbb0
  go_wp2_with (at_builtin; refine wpList_append_own _ rfl _ _ 37 rfl w0.heap.size 5 i0 (.int .u8 0) 1 1 Tryd.underlying37 hi hz0 hz1 hz2 rfl (by decide) _ _ _ rfl (o2.alloc _) ⟨w2.heap.size, 0, none⟩ 1 1 [.int .u8 ((bb0.toNat : Nat) : Int)] rfl rfl ?c1 ?c2 ?c3 ?c4 ?c5 ?_)
  case c1 => exact oneAt _ _ _
  case c2 => intro u hu; simp at hu; subst hu; rfl
  case c3 => unfold maxLen; omega
  case c4 => omega
  case c5 => simp; omega
  intro v' w3 hown' hgrow _
  have d1 := hgrow.cell (cellA (.cells #[.int .u8 ((bb0.toNat : Nat) : Int)] 5) d1) (fun h => by have q : w0.heap.size ≤ w.heap.size := (o2.lt _ h.symm).1; have := S0.out; omega)
  have d2 := hgrow.cell (cellA (.cells #[.int .u8 ((bb0.toNat : Nat) : Int)] 5) d2) (fun h => by have q : w0.heap.size ≤ w.heap.size := (o2.lt _ h.symm).1; have := S0.out; omega)
  have d3 := hgrow.cell (cellA (.cells #[.int .u8 ((bb0.toNat : Nat) : Int)] 5) d3) (fun h => by have q : w0.heap.size ≤ w.heap.size := (o2.lt _ h.symm).1; have := S0.out; omega)
  obtain ⟨o3, e3⟩ := appB o2 e2 hown' hgrow
  rw [HB.out] at o3
  clear hown' hgrow o2
  obtain ⟨A3, c3, rfl, hc3, hA3, hm3⟩ := ownShape o3
  have n3 := put_len2 l 1 1
  have s3 := e3.size
  have hA3 : A3 = none → C.put l 1 1 = [] ∧ c3 = 0 := fun h => ⟨List.eq_nil_of_length_eq_zero (hA3 h).1, (hA3 h).2⟩
  go_wp2_with fail
  refine (rput_any A3 c3 (C.put l 1 1) b 8 w3 w3.heap.size (by omega) hA3 (Rd.ofOwn o3) (Nat.le_refl _) bb (by omega) (by omega)).mono ?_
  rintro e w4 ⟨v4, rfl, o4, b4⟩
  go_wp2_with fail
  go_ret
  exact ⟨_, rfl, ownMore o4 (Nat.le_trans g0.size s3), g0.trans ((e3.trans (b4.mono s3)).mono g0.size)⟩
set_option maxHeartbeats 1600000 in
theorem rvput_2 (hs : t.size ≤ 9223372036854775807) (bb : b < 18446744073709551616) (hl : l.length ≤ 137438953472) (hA : A = none → l = [] ∧ c = 0) (hr : Rd w B0 A (bc l)) (hB : B0 ≤ w.heap.size) (hf : V.formed 2 b t.data.toList = true) :
    Calls Tryd.prog 76 #[.slice A l.length c, .agg #[.int .i64 2, .int .u64 (b : Int), .string t]] w (MadeB w (C.putText (C.put l 2 1) t.data.toList)) := by
  obtain ⟨i0, hi, hz0, hz1, hz2⟩ := info_parts info_u8
  have HF := Lib.hid (fun z => rformed_any 2 b bb t z)
  rw [hf] at HF
  unfold V.val at HF
  obtain ⟨m, hm⟩ : ∃ m, m = l.length := ⟨_, rfl⟩
  have HM := Lib.hid hm
  rw [← hm] at hl ⊢
  have g0 := (Below.refl w.heap.size w).alloc (Nat.le_refl _) (.cells #[.int .i64 2, .int .u64 b, .string t] 35)
  have hr0 := hr.belowM g0 hB
  have c1 := Lib.hid (cell3 w (.int .i64 2) (.int .u64 b) (.string t) 35)
  clear hf hm
  go_enter Tryd.func76, Tryd.ntmps76
  obtain ⟨w0, hw0⟩ : ∃ w0, w0 = w.alloc (.cells #[.int .i64 2, .int .u64 b, .string t] 35) := ⟨_, rfl⟩
  have c1 := c1.out
  rw [← hw0] at c1 g0 hr0
  have S0 : Hid (w0.heap.size = w.heap.size + 1) := by show _ = _; rw [hw0]; simp
  go_upto_region 1 with fail
  rw [← hw0]
  clear hw0
  go_wp2_with (at_builtin; refine wpList_append_rd _ rfl _ _ 37 rfl w0.heap.size 5 i0 (.int .u8 0) 1 Tryd.underlying37 hi hz0 hz1 hz2 rfl _ _ _ rfl (World.ownsRow_nil _ _ _ _) B0 A m c (bc l) rfl ?a1 ?a2 hr0 (bc_one l) ?a3 ?a4 ?a5 ?_)
  case a1 => rw [bc_len, HM.out]
  case a2 => exact fun h => (hA h).2
  case a3 => unfold maxLen; omega
  case a4 => omega
  case a5 => exact Nat.le_refl _
  intro v w1 hown hgrow
  have o1 : w1.ownsRow w0.heap.size 5 1 v l.length (bc l) := by rw [← HM.out]; simpa using hown
  have e1 : Below w0.heap.size w0 w1 := (Below.refl _ w0).grown hgrow (Nat.le_refl _) (by intro k hk; simp [Value.ownBlock] at hk)
  obtain ⟨a1, a2, a3⟩ := c1
  have d1 := cellB e1 a1
  have d2 := cellB e1 a2
  have d3 := cellB e1 a3
  have hl : l.length ≤ 137438953472 := by rw [← HM.out]; exact hl
  clear hown hgrow a1 a2 a3 hr0
  obtain ⟨A1, c1, rfl, hc1, hA1, hm1⟩ := ownShape o1
  go_wp2_with fail
  refine (HF.out _).mono ?_
  rintro e w2 ⟨rfl, b2⟩
  have d1 := cellB b2 d1
  have d2 := cellB b2 d2
  have d3 := cellB b2 d3
  have s1 := e1.size
  have o2 := ownKeptI o1 b2
  have e2 := e1.trans (b2.mono s1)
  have s2 := e2.size
  clear o1 b2 HF
  obtain ⟨bb0, hbb0⟩ : ∃ bb0, bb0 = UInt8.ofNat 2 := ⟨_, rfl⟩
  have HW : Hid (IntKind.u8.wrap 2 = ((bb0.toNat : Nat) : Int)) := by show _ = _; rw [hbb0]; rfl
  have HB : Hid (l ++ [bb0] = C.put l 2 1) := by show _ = _; rw [put_one, hbb0]
  have hwr := HW.out
  clear hbb0
  go_wp2_with (at_builtin; refine wpList_append_own _ rfl _ _ 37 rfl w0.heap.size 5 i0 (.int .u8 0) 1 1 Tryd.underlying37 hi hz0 hz1 hz2 rfl (by decide) _ _ _ rfl (o2.alloc _) ⟨w2.heap.size, 0, none⟩ 1 1 [.int .u8 ((bb0.toNat : Nat) : Int)] rfl rfl ?c1 ?c2 ?c3 ?c4 ?c5 ?_)
  case c1 => exact oneAt _ _ _
  case c2 => intro u hu; simp at hu; subst hu; rfl
  case c3 => unfold maxLen; omega
  case c4 => omega
  case c5 => simp; omega
  intro v' w3 hown' hgrow _
  have d1 := hgrow.cell (cellA (.cells #[.int .u8 ((bb0.toNat : Nat) : Int)] 5) d1) (fun h => by have q : w0.heap.size ≤ w.heap.size := (o2.lt _ h.symm).1; have := S0.out; omega)
  have d2 := hgrow.cell (cellA (.cells #[.int .u8 ((bb0.toNat : Nat) : Int)] 5) d2) (fun h => by have q : w0.heap.size ≤ w.heap.size := (o2.lt _ h.symm).1; have := S0.out; omega)
  have d3 := hgrow.cell (cellA (.cells #[.int .u8 ((bb0.toNat : Nat) : Int)] 5) d3) (fun h => by have q : w0.heap.size ≤ w.heap.size := (o2.lt _ h.symm).1; have := S0.out; omega)
  obtain ⟨o3, e3⟩ := appB o2 e2 hown' hgrow
  rw [HB.out] at o3
  clear hown' hgrow o2
  obtain ⟨A3, c3, rfl, hc3, hA3, hm3⟩ := ownShape o3
  have n3 := put_len2 l 2 1
  have s3 := e3.size
  have hA3 : A3 = none → C.put l 2 1 = [] ∧ c3 = 0 := fun h => ⟨List.eq_nil_of_length_eq_zero (hA3 h).1, (hA3 h).2⟩
  go_wp2_with fail
  refine (rputtext_any A3 c3 (C.put l 2 1) t w3 w3.heap.size (by omega) hA3 (Rd.ofOwn o3) (Nat.le_refl _) hs).mono ?_
  rintro e w4 ⟨v4, rfl, o4, b4⟩
  go_wp2_with fail
  go_ret
  exact ⟨_, rfl, ownMore o4 (Nat.le_trans g0.size s3), g0.trans ((e3.trans (b4.mono s3)).mono g0.size)⟩
theorem formed_kind {k : Int} {b : Nat} {t : List UInt8} (h : V.formed k b t = true) : k = 0 ∨ k = 1 ∨ k = 2 := by
  unfold V.formed at h
  by_cases h0 : k = 0
  · exact .inl h0
  · by_cases h1 : k = 1
    · exact .inr (.inl h1)
    · by_cases h2 : k = 2
      · exact .inr (.inr h2)
      · rw [if_neg h0, if_neg h1, if_neg h2] at h; exact Bool.noConfusion h
theorem vput_any (k : Int) (bb : b < 18446744073709551616) (hs : t.size ≤ 9223372036854775807) (hl : l.length ≤ 137438953472) (hA : A = none → l = [] ∧ c = 0) (hr : Rd w B0 A (bc l)) (hB : B0 ≤ w.heap.size) (hT : Tabs w) :
    Calls Tryd.prog 68 #[.slice A l.length c, V.val k b t] w (MadeB w (V.put l k b t.data.toList)) := by
  unfold V.put V.val
  cases hf : V.formed k b t.data.toList with
  | false => rw [if_neg (by simp)]; exact vput_none A c l b t w B0 k hl hA hr hB hT hf
  | true =>
    rw [if_pos rfl]
    rcases formed_kind hf with rfl | rfl | rfl
    · rw [if_neg (by omega), if_neg (by omega)]; exact vput_0 A c l b t w B0 hl hA hr hB hT hf
    · rw [if_pos rfl]; exact vput_1 A c l b t w B0 bb hl hA hr hB hT hf
    · rw [if_neg (by omega), if_pos rfl]; exact vput_2 A c l b t w B0 hs hl hA hr hB hT hf
theorem rvput_any (k : Int) (bb : b < 18446744073709551616) (hs : t.size ≤ 9223372036854775807) (hl : l.length ≤ 137438953472) (hA : A = none → l = [] ∧ c = 0) (hr : Rd w B0 A (bc l)) (hB : B0 ≤ w.heap.size) :
    Calls Tryd.prog 76 #[.slice A l.length c, V.val k b t] w (MadeB w (V.put l k b t.data.toList)) := by
  unfold V.put V.val
  cases hf : V.formed k b t.data.toList with
  | false => rw [if_neg (by simp)]; exact rvput_none A c l b t w B0 k bb hl hA hr hB hf
  | true =>
    rw [if_pos rfl]
    rcases formed_kind hf with rfl | rfl | rfl
    · rw [if_neg (by omega), if_neg (by omega)]; exact rvput_0 A c l b t w B0 bb hl hA hr hB hf
    · rw [if_pos rfl]; exact rvput_1 A c l b t w B0 bb hl hA hr hB hf
    · rw [if_neg (by omega), if_pos rfl]; exact rvput_2 A c l b t w B0 hs bb hl hA hr hB hf
end
end Go.Proofs.YtjofjpmhokjhnaaDoor

namespace Go.Proofs.YtjofjpmhokjhnaaDoor
set_option maxRecDepth 20001
open Go.RowKit Go.ChangeShapes Go.WideShapes Go.ChangeAt
theorem Cel.val {W : World} {cs : List Value} (h : Cel W 35 cs) : ∃ (k : Int) (b : Nat) (t : ByteArray), cs = [.int .i64 k, .int .u64 (b : Int), .string t] ∧ -9223372036854775808 ≤ k ∧ k ≤ 9223372036854775807 ∧ b < 18446744073709551616 ∧ t.size ≤ 9223372036854775807 := by
  have hl := h.len Tryd.underlying35
  rw [show Tryd.prog.cellsOf 35 = 3 by kernel_rfl] at hl
  match cs, hl with
  | [x, y, z], _ =>
    obtain ⟨k, hk, k1, k2⟩ := (h.field1 Tryd.underlying35 0 0 3 _ rfl rfl rfl (by kernel_rfl) x rfl).i64 Tryd.underlying3
    obtain ⟨b, hb, b1⟩ := (h.field1 Tryd.underlying35 1 1 31 _ rfl rfl rfl (by kernel_rfl) y rfl).u64 Tryd.underlying31
    obtain ⟨t, ht, t1⟩ := (h.field1 Tryd.underlying35 2 2 9 _ rfl rfl rfl (by kernel_rfl) z rfl).string Tryd.underlying9
    cases hk; cases hb; cases ht
    exact ⟨k, b, t, rfl, k1, k2, b1, t1⟩
theorem Arg.val {W : World} {v : Value} (h : Arg W 35 v) : ∃ (k : Int) (b : Nat) (t : ByteArray), v = V.val k b t ∧ -9223372036854775808 ≤ k ∧ k ≤ 9223372036854775807 ∧ b < 18446744073709551616 ∧ t.size ≤ 9223372036854775807 := by
  obtain ⟨cs, rfl, hc⟩ := h.struct Tryd.underlying35
  obtain ⟨k, b, t, e, r⟩ := hc.val
  refine ⟨k, b, t, ?_, r⟩
  unfold V.val
  congr 1
  apply Array.ext'
  exact e
end Go.Proofs.YtjofjpmhokjhnaaDoor
