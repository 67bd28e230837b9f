/- The walk of the law CodeFails: a reader that has failed, and the nil reader. -/
import Derived.Test.YtfpblaggnehnoaaCodeOrder
import Derived.Test.YtfpblaggnehnoaaArgs
namespace Go.Proofs.Ytfpblaggnehnoaa
open Go.RowKit
set_option linter.unusedSimpArgs false
set_option linter.unusedVariables false

set_option maxHeartbeats 400000 in
theorem some_nil (n : Int) (w : World) :
    Calls Try.prog 64 #[.pointer none, .int .i64 n] w fun e w' => e = .returned (.slice none 0 0) ∧ w = w' := by
  go_enter Try.func64, Try.ntmps64
  go_wp2
  go_ret
  exact ⟨rfl, rfl⟩

set_option maxHeartbeats 400000 in
theorem take_nil (n : Int) (w : World) :
    Calls Try.prog 49 #[.pointer none, .int .i64 n] w fun e w' => e = .returned (.int .u64 0) ∧ w = w' := by
  by_cases hn : n < 0
  · go_enter Try.func49, Try.ntmps49
    go_wp2
    go_ret
    exact ⟨rfl, rfl⟩
  · by_cases h8 : 8 < n
    · go_enter Try.func49, Try.ntmps49
      go_wp2
      go_ret
      exact ⟨rfl, rfl⟩
    · go_enter Try.func49, Try.ntmps49
      go_wp2_with (go_at_call 64; refine (some_nil _ _).mono ?_; rintro e w' ⟨rfl, rfl⟩)
      go_loop [5, 23] (fun x i => i = .int .i64 0 ∧ x = .int .u64 0) (fun _ i => (intOf i).toNat)
      case atStart => exact ⟨rfl, rfl⟩
      case round =>
        obtain ⟨rfl, rfl⟩ := hrel
        go_wp2
        go_ret
        exact ⟨rfl, rfl⟩

set_option maxHeartbeats 400000 in
theorem text_nil (n : Int) (w : World) :
    Calls Try.prog 48 #[.pointer none, .int .i64 n] w fun e w' => e = .returned (.string ⟨#[]⟩) ∧ w = w' := by
  have hcv : (convert 45 9 (.slice none 0 0)).run Try.prog w = .ok (.string ⟨#[]⟩) w := run_string_rd (P := Try.prog) w 45 5 9 Try.underlying45 Try.underlying5 Try.underlying9 0 none 0 [] Rd.nil
  by_cases hn : n < 0
  · go_enter Try.func48, Try.ntmps48
    go_wp2_with (first | (go_at_call 49; refine (take_nil _ _).mono ?_; rintro e w' ⟨rfl, rfl⟩) | (go_at_call 64; refine (some_nil _ _).mono ?_; rintro e w' ⟨rfl, rfl⟩))
    go_ret
    exact ⟨rfl, rfl⟩
  · go_enter Try.func48, Try.ntmps48
    go_wp2_with (first | (go_at_call 49; refine (take_nil _ _).mono ?_; rintro e w' ⟨rfl, rfl⟩) | (go_at_call 64; refine (some_nil _ _).mono ?_; rintro e w' ⟨rfl, rfl⟩))
    go_ret
    exact ⟨rfl, rfl⟩

set_option maxHeartbeats 400000 in
theorem ok_nil (w : World) : Calls Try.prog 55 #[.pointer none] w fun e w' => e = .returned (.bool false) ∧ w = w' := by
  go_enter Try.func55, Try.ntmps55
  go_wp2
  go_ret
  exact ⟨rfl, rfl⟩
set_option maxHeartbeats 400000 in
theorem left_nil (w : World) : Calls Try.prog 53 #[.pointer none] w fun e w' => e = .returned (.int .i64 0) ∧ w = w' := by
  go_enter Try.func53, Try.ntmps53
  go_wp2_with (go_at_call 55; refine (ok_nil _).mono ?_; rintro e w' ⟨rfl, rfl⟩)
  go_ret
  exact ⟨rfl, rfl⟩
set_option maxHeartbeats 400000 in
theorem end_nil (w : World) : Calls Try.prog 50 #[.pointer none] w fun e w' => e = .returned (.bool false) ∧ w = w' := by
  go_enter Try.func50, Try.ntmps50
  go_wp2_with (go_at_call 55; refine (ok_nil _).mono ?_; rintro e w' ⟨rfl, rfl⟩)
  go_ret
  exact ⟨rfl, rfl⟩

theorem take_failed (n : Int) (l : List UInt8) : C.take n (l, true) = (0, (l, true)) := by
  unfold C.take C.some_
  split
  · rfl
  · simp [C.val]
theorem text_failed (most : Int) (l : List UInt8) : C.text most (l, true) = ([], (l, true)) := by
  unfold C.text
  rw [take_failed]
  unfold C.some_
  simp

set_option maxHeartbeats 1600000 in
theorem fails_mid (A : Option Addr) (c : Nat) (l : List UInt8) (n : Int) (w : World) (hc : l.length ≤ c) (hm : c ≤ maxLen) (hA : A = none → l = [] ∧ c = 0) (hr : Rd w w.heap.size A (bc l)) :
    Calls Try.prog 15 #[.slice A l.length c, .int .i64 n] w fun e w' => e = .returned (.bool true) ∧ Below w.heap.size w w' := by
  by_cases hl : 1000 < l.length
  · go_enter Try.func15, Try.ntmps15
    go_wp2_with fail
    refine (c_awake _).mono ?_
    rintro e w1 ⟨rfl, hb1⟩
    go_wp2_with fail
    refine (c_awake _).mono ?_
    rintro e w2 ⟨rfl, hb2⟩
    go_wp2_with fail
    go_ret
    exact ⟨rfl, hb1.trans (hb2.mono hb1.size)⟩
  · go_enter Try.func15, Try.ntmps15
    go_wp2_with fail
    refine (c_awake _).mono ?_
    rintro e w1 ⟨rfl, hb1⟩
    go_wp2_with fail
    refine (new_any A c l w1 w.heap.size hc hm hA (hr.below hb1) hb1.size).mono ?_
    rintro e w2 ⟨rfl, hR, hb2⟩
    have h9 : C.take 9 (l, false) = (0, (l, true)) := by unfold C.take; rw [if_pos (by omega)]
    have H9 := Lib.hid h9
    have HT := Lib.hid (take_failed 1 l)
    have HX := Lib.hid (text_failed 9 l)
    clear h9
    go_wp2_with fail
    refine (take_any _ _ 9 _ w2 hR).mono ?_
    rw [H9.out]
    rintro e w3 ⟨rfl, hR3, hg3⟩
    go_wp2_with fail
    refine (take_any _ _ 1 _ w3 hR3).mono ?_
    rw [HT.out]
    rintro e w4 ⟨rfl, hR4, hg4⟩
    go_wp2_with fail
    refine (text_any _ _ 9 _ w4 hR4).mono ?_
    rw [HX.out]
    rintro e w5 ⟨rfl, hR5, hg5⟩
    go_wp2_with fail
    refine (ok_any _ _ _ w5 hR5).mono ?_
    rintro e w' ⟨rfl, rfl⟩
    go_wp2_with fail
    refine (end_any _ _ _ w5 hR5).mono ?_
    rintro e w' ⟨rfl, rfl⟩
    have he : C.end_ (l, true) = false := rfl
    rw [he]
    clear he
    go_wp2_with fail
    refine (left_any _ _ _ w5 hR5).mono ?_
    rintro e w' ⟨rfl, rfl⟩
    have he : C.left (l, true) = 0 := rfl
    rw [he]
    clear he
    go_wp2_with (first
      | (go_at_call 49; refine (take_nil _ _).mono ?_; rintro e w' ⟨rfl, rfl⟩)
      | (go_at_call 48; refine (text_nil _ _).mono ?_; rintro e w' ⟨rfl, rfl⟩)
      | (go_at_call 55; refine (ok_nil _).mono ?_; rintro e w' ⟨rfl, rfl⟩)
      | (go_at_call 53; refine (left_nil _).mono ?_; rintro e w' ⟨rfl, rfl⟩)
      | (go_at_call 50; refine (end_nil _).mono ?_; rintro e w' ⟨rfl, rfl⟩))
    go_ret
    have hbg : ∀ {u u' : World}, u.grownBy u' (some w1.heap.size) → Below w.heap.size w u → Below w.heap.size w u' := fun {u u'} hg hb => hb.grown hg hb.size (fun k hk => by injection hk with hk; subst hk; exact hb1.size)
    exact ⟨rfl, hbg hg5 (hbg hg4 (hbg hg3 (hb1.trans (hb2.mono hb1.size))))⟩

theorem codeFails_walk (W : World) (v0 v1 : Value) (h0 : Arg W 45 v0) (h1 : Arg W 3 v1) :
    Calls Try.prog 15 #[v0, v1] W fun e W' => e = .returned (.bool true) ∧ Below W.heap.size W W' := by
  obtain ⟨A, c, l, rfl, hc, hm, hA, hr⟩ := h0.bytes Try.underlying45
  obtain ⟨n, rfl, _, _⟩ := h1.i64 Try.underlying3
  exact fails_mid A c l n W hc hm hA hr
end Go.Proofs.Ytfpblaggnehnoaa
