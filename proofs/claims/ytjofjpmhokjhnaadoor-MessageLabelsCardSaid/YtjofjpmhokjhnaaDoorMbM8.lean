/- A value that came in as an argument. No condition. -/
import Derived.Test.YtjofjpmhokjhnaaDoorMbM4
import Derived.Test.YtjofjpmhokjhnaaDoorMbM7
import Derived.Test.YtjofjpmhokjhnaaDoorMbM1
import Derived.Test.YtjofjpmhokjhnaaDoorMbM6
namespace Go.Proofs.YtjofjpmhokjhnaaDoor
set_option maxRecDepth 20000
open Go.RowKit
set_option linter.unusedSimpArgs false
set_option linter.unusedVariables false

/-- a value's bytes behind bytes -/
def V.put (l : List UInt8) (k : Int) (b : Nat) (t : List UInt8) : List UInt8 :=
  if V.formed k b t = true then (if k = 1 then C.put (C.put l 1 1) b 8 else if k = 2 then C.putText (C.put l 2 1) t else C.put l 0 1) else l
theorem put_len2 (l : List UInt8) (x : Nat) (n : Int) : (C.put l x n).length ≤ l.length + 8 := by unfold C.put; rw [List.length_append, C.be_len]; have := C.clamp8_le n; omega
theorem puttext_len (l : List UInt8) (t : List UInt8) : (C.putText l t).length ≤ l.length + 65537 := by
  unfold C.putText; simp only [List.length_append, C.be_len, List.length_take]; omega
theorem V.put_len (l : List UInt8) (k : Int) (b : Nat) (t : List UInt8) : (V.put l k b t).length ≤ l.length + 65545 := by
  unfold V.put
  have h0 := put_len2 l 0 1
  have h1 := put_len2 l 1 1
  have h2 := put_len2 (C.put l 1 1) b 8
  have h3 := put_len2 l 2 1
  have h4 := puttext_len (C.put l 2 1) t
  split
  · split
    · omega
    · split <;> omega
  · omega

section
variable (A : Option Addr) (c : Nat) (l : List UInt8) (b : Nat) (t : ByteArray) (w : World) (B0 : Nat)
set_option maxHeartbeats 1600000 in
theorem vput_none (k : Int) (hl : l.length ≤ 137438953472) (hA : A = none → l = [] ∧ c = 0) (hr : Rd w B0 A (bc l)) (hB : B0 ≤ w.heap.size) (hT : Tabs w) (hf : V.formed k b t.data.toList = false) :
    Calls Tryd.prog 68 #[.slice A l.length c, .agg #[.int .i64 k, .int .u64 (b : Int), .string t]] w (MadeB w (l)) := by
  have HF := Lib.hid (fun z (hz : Tabs z) => formed_any k b t z hz)
  rw [hf] at HF
  unfold V.val at HF
  have hT1 := Lib.hid (show Tabs (w.alloc (.cells #[.int .i64 k, .int .u64 b, .string t] 35)) from hT.below ((Below.refl _ _).alloc (Nat.le_refl _) _))
  have g0 := (Below.refl w.heap.size w).alloc (Nat.le_refl _) (.cells #[.int .i64 k, .int .u64 b, .string t] 35)
  have c1 := Lib.hid (cell3 w (.int .i64 k) (.int .u64 b) (.string t) 35)
  clear hf hT
  go_enter Tryd.func68, Tryd.ntmps68
  go_wp2_with fail
  refine (HF.out _ hT1.out).mono ?_
  rintro e w1 ⟨rfl, b1⟩
  obtain ⟨a1, a2, a3⟩ := c1.out
  have d1 := cellB b1 a1
  have d2 := cellB b1 a2
  have d3 := cellB b1 a3
  have e1 := g0.trans (b1.mono g0.size)
  have hr1 := hr.belowM e1 hB
  have s1 := e1.size
  clear a1 a2 a3 c1 b1 g0 hT1 HF
  go_wp2_with fail
  refine (clone_any A c l w1 B0 (by omega) hA hr1 (by omega)).mono ?_
  rintro e w2 ⟨v, rfl, o2, b2⟩
  go_wp2_with fail
  go_ret
  exact ⟨_, rfl, ownMore o2 s1, e1.trans (b2.mono s1)⟩
set_option maxHeartbeats 1600000 in
theorem vput_0 (hl : l.length ≤ 137438953472) (hA : A = none → l = [] ∧ c = 0) (hr : Rd w B0 A (bc l)) (hB : B0 ≤ w.heap.size) (hT : Tabs w) (hf : V.formed 0 b t.data.toList = true) :
    Calls Tryd.prog 68 #[.slice A l.length c, .agg #[.int .i64 0, .int .u64 (b : Int), .string t]] w (MadeB w (C.put l 0 1)) := by
  have HF := Lib.hid (fun z (hz : Tabs z) => formed_any 0 b t z hz)
  rw [hf] at HF
  unfold V.val at HF
  have hT1 := Lib.hid (show Tabs (w.alloc (.cells #[.int .i64 0, .int .u64 b, .string t] 35)) from hT.below ((Below.refl _ _).alloc (Nat.le_refl _) _))
  have g0 := (Below.refl w.heap.size w).alloc (Nat.le_refl _) (.cells #[.int .i64 0, .int .u64 b, .string t] 35)
  have c1 := Lib.hid (cell3 w (.int .i64 0) (.int .u64 b) (.string t) 35)
  clear hf hT
  go_enter Tryd.func68, Tryd.ntmps68
  go_wp2_with fail
  refine (HF.out _ hT1.out).mono ?_
  rintro e w1 ⟨rfl, b1⟩
  obtain ⟨a1, a2, a3⟩ := c1.out
  have d1 := cellB b1 a1
  have d2 := cellB b1 a2
  have d3 := cellB b1 a3
  have e1 := g0.trans (b1.mono g0.size)
  have hr1 := hr.belowM e1 hB
  have s1 := e1.size
  clear a1 a2 a3 c1 b1 g0 hT1 HF
  go_wp2_with fail
  refine (put_any A c l 0 1 w1 B0 (by omega) hA hr1 (by omega) (by omega)).mono ?_
  rintro e w2 ⟨v, rfl, o2, b2⟩
  have d1 := cellB b2 d1
  go_wp2_with fail
  go_ret
  exact ⟨_, rfl, ownMore o2 s1, e1.trans (b2.mono s1)⟩
set_option maxHeartbeats 1600000 in
theorem vput_1 (bb : b < 18446744073709551616) (hl : l.length ≤ 137438953472) (hA : A = none → l = [] ∧ c = 0) (hr : Rd w B0 A (bc l)) (hB : B0 ≤ w.heap.size) (hT : Tabs w) (hf : V.formed 1 b t.data.toList = true) :
    Calls Tryd.prog 68 #[.slice A l.length c, .agg #[.int .i64 1, .int .u64 (b : Int), .string t]] w (MadeB w (C.put (C.put l 1 1) b 8)) := by
  have HF := Lib.hid (fun z (hz : Tabs z) => formed_any 1 b t z hz)
  rw [hf] at HF
  unfold V.val at HF
  have hT1 := Lib.hid (show Tabs (w.alloc (.cells #[.int .i64 1, .int .u64 b, .string t] 35)) from hT.below ((Below.refl _ _).alloc (Nat.le_refl _) _))
  have g0 := (Below.refl w.heap.size w).alloc (Nat.le_refl _) (.cells #[.int .i64 1, .int .u64 b, .string t] 35)
  have c1 := Lib.hid (cell3 w (.int .i64 1) (.int .u64 b) (.string t) 35)
  clear hf hT
  go_enter Tryd.func68, Tryd.ntmps68
  go_wp2_with fail
  refine (HF.out _ hT1.out).mono ?_
  rintro e w1 ⟨rfl, b1⟩
  obtain ⟨a1, a2, a3⟩ := c1.out
  have d1 := cellB b1 a1
  have d2 := cellB b1 a2
  have d3 := cellB b1 a3
  have e1 := g0.trans (b1.mono g0.size)
  have hr1 := hr.belowM e1 hB
  have s1 := e1.size
  clear a1 a2 a3 c1 b1 g0 hT1 HF
  go_wp2_with fail
  refine (put_any A c l 1 1 w1 B0 (by omega) hA hr1 (by omega) (by omega)).mono ?_
  rintro e w2 ⟨v, rfl, o2, b2⟩
  have d1 := cellB b2 d1
  have d2 := cellB b2 d2
  obtain ⟨A2, c2, rfl, hc2, hA2, hm2⟩ := ownShape o2
  have n1 := put_len2 l 1 1
  have hA2 : A2 = none → C.put l 1 1 = [] ∧ c2 = 0 := fun h => ⟨List.eq_nil_of_length_eq_zero (hA2 h).1, (hA2 h).2⟩
  go_wp2_with fail
  refine (put_any A2 c2 (C.put l 1 1) b 8 w2 w2.heap.size (by omega) hA2 (Rd.ofOwn o2) (Nat.le_refl _) bb).mono ?_
  rintro e w3 ⟨v3, rfl, o3, b3⟩
  have e2 := e1.trans (b2.mono s1)
  have s2 := e2.size
  go_wp2_with fail
  go_ret
  exact ⟨_, rfl, ownMore o3 s2, e2.trans (b3.mono s2)⟩
set_option maxHeartbeats 1600000 in
theorem vput_2 (hs : t.size ≤ 9223372036854775807) (hl : l.length ≤ 137438953472) (hA : A = none → l = [] ∧ c = 0) (hr : Rd w B0 A (bc l)) (hB : B0 ≤ w.heap.size) (hT : Tabs w) (hf : V.formed 2 b t.data.toList = true) :
    Calls Tryd.prog 68 #[.slice A l.length c, .agg #[.int .i64 2, .int .u64 (b : Int), .string t]] w (MadeB w (C.putText (C.put l 2 1) t.data.toList)) := by
  have HF := Lib.hid (fun z (hz : Tabs z) => formed_any 2 b t z hz)
  rw [hf] at HF
  unfold V.val at HF
  have hT1 := Lib.hid (show Tabs (w.alloc (.cells #[.int .i64 2, .int .u64 b, .string t] 35)) from hT.below ((Below.refl _ _).alloc (Nat.le_refl _) _))
  have g0 := (Below.refl w.heap.size w).alloc (Nat.le_refl _) (.cells #[.int .i64 2, .int .u64 b, .string t] 35)
  have c1 := Lib.hid (cell3 w (.int .i64 2) (.int .u64 b) (.string t) 35)
  clear hf hT
  go_enter Tryd.func68, Tryd.ntmps68
  go_wp2_with fail
  refine (HF.out _ hT1.out).mono ?_
  rintro e w1 ⟨rfl, b1⟩
  obtain ⟨a1, a2, a3⟩ := c1.out
  have d1 := cellB b1 a1
  have d2 := cellB b1 a2
  have d3 := cellB b1 a3
  have e1 := g0.trans (b1.mono g0.size)
  have hr1 := hr.belowM e1 hB
  have s1 := e1.size
  clear a1 a2 a3 c1 b1 g0 hT1 HF
  go_wp2_with fail
  refine (put_any A c l 2 1 w1 B0 (by omega) hA hr1 (by omega) (by omega)).mono ?_
  rintro e w2 ⟨v, rfl, o2, b2⟩
  have d1 := cellB b2 d1
  have d3 := cellB b2 d3
  obtain ⟨A2, c2, rfl, hc2, hA2, hm2⟩ := ownShape o2
  have n1 := put_len2 l 2 1
  have hA2 : A2 = none → C.put l 2 1 = [] ∧ c2 = 0 := fun h => ⟨List.eq_nil_of_length_eq_zero (hA2 h).1, (hA2 h).2⟩
  go_wp2_with fail
  refine (puttext_any A2 c2 (C.put l 2 1) t w2 w2.heap.size (by omega) hA2 (Rd.ofOwn o2) (Nat.le_refl _) hs).mono ?_
  rintro e w3 ⟨v3, rfl, o3, b3⟩
  have e2 := e1.trans (b2.mono s1)
  have s2 := e2.size
  go_wp2_with fail
  go_ret
  exact ⟨_, rfl, ownMore o3 s2, e2.trans (b3.mono s2)⟩
theorem formed_kind {k : Int} {b : Nat} {t : List UInt8} (h : V.formed k b t = true) : k = 0 ∨ k = 1 ∨ k = 2 := by
  unfold V.formed at h
  by_cases h0 : k = 0
  · exact .inl h0
  · by_cases h1 : k = 1
    · exact .inr (.inl h1)
    · by_cases h2 : k = 2
      · exact .inr (.inr h2)
      · rw [if_neg h0, if_neg h1, if_neg h2] at h; exact Bool.noConfusion h
theorem vput_any (k : Int) (bb : b < 18446744073709551616) (hs : t.size ≤ 9223372036854775807) (hl : l.length ≤ 137438953472) (hA : A = none → l = [] ∧ c = 0) (hr : Rd w B0 A (bc l)) (hB : B0 ≤ w.heap.size) (hT : Tabs w) :
    Calls Tryd.prog 68 #[.slice A l.length c, V.val k b t] w (MadeB w (V.put l k b t.data.toList)) := by
  unfold V.put V.val
  cases hf : V.formed k b t.data.toList with
  | false => rw [if_neg (by simp)]; exact vput_none A c l b t w B0 k hl hA hr hB hT hf
  | true =>
    rw [if_pos rfl]
    rcases formed_kind hf with rfl | rfl | rfl
    · rw [if_neg (by omega), if_neg (by omega)]; exact vput_0 A c l b t w B0 hl hA hr hB hT hf
    · rw [if_pos rfl]; exact vput_1 A c l b t w B0 bb hl hA hr hB hT hf
    · rw [if_neg (by omega), if_pos rfl]; exact vput_2 A c l b t w B0 hs hl hA hr hB hT hf
end
end Go.Proofs.YtjofjpmhokjhnaaDoor

namespace Go.Proofs.YtjofjpmhokjhnaaDoor
set_option maxRecDepth 20001
open Go.RowKit Go.ChangeShapes Go.WideShapes Go.ChangeAt
theorem Cel.val {W : World} {cs : List Value} (h : Cel W 35 cs) : ∃ (k : Int) (b : Nat) (t : ByteArray), cs = [.int .i64 k, .int .u64 (b : Int), .string t] ∧ -9223372036854775808 ≤ k ∧ k ≤ 9223372036854775807 ∧ b < 18446744073709551616 ∧ t.size ≤ 9223372036854775807 := by
  have hl := h.len Tryd.underlying35
  rw [show Tryd.prog.cellsOf 35 = 3 by kernel_rfl] at hl
  match cs, hl with
  | [x, y, z], _ =>
    obtain ⟨k, hk, k1, k2⟩ := (h.field1 Tryd.underlying35 0 0 3 _ rfl rfl rfl (by kernel_rfl) x rfl).i64 Tryd.underlying3
    obtain ⟨b, hb, b1⟩ := (h.field1 Tryd.underlying35 1 1 31 _ rfl rfl rfl (by kernel_rfl) y rfl).u64 Tryd.underlying31
    obtain ⟨t, ht, t1⟩ := (h.field1 Tryd.underlying35 2 2 9 _ rfl rfl rfl (by kernel_rfl) z rfl).string Tryd.underlying9
    cases hk; cases hb; cases ht
    exact ⟨k, b, t, rfl, k1, k2, b1, t1⟩
theorem Arg.val {W : World} {v : Value} (h : Arg W 35 v) : ∃ (k : Int) (b : Nat) (t : ByteArray), v = V.val k b t ∧ -9223372036854775808 ≤ k ∧ k ≤ 9223372036854775807 ∧ b < 18446744073709551616 ∧ t.size ≤ 9223372036854775807 := by
  obtain ⟨cs, rfl, hc⟩ := h.struct Tryd.underlying35
  obtain ⟨k, b, t, e, r⟩ := hc.val
  refine ⟨k, b, t, ?_, r⟩
  unfold V.val
  congr 1
  apply Array.ext'
  exact e
end Go.Proofs.YtjofjpmhokjhnaaDoor
