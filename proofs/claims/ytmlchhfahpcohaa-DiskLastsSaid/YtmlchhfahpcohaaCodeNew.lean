/- Small contracts on layer 2: put onto nothing, a new reader, awake. -/
import Derived.Test.YtmlchhfahpcohaaCodeReads
import Derived.Deep.RegionWith
namespace Go.Proofs.Ytmlchhfahpcohaa
open Go.RowKit
set_option linter.unusedSimpArgs false
set_option linter.unusedVariables false

theorem belowOfDrew {B : Nat} {w w' : World} (h : Below B w.drew w') : Below B w w' := ⟨h.os, h.tape, h.output, h.size, h.block⟩
theorem put_nil (x : Nat) (n : Int) (w : World) (hx : x < 18446744073709551616) :
    Calls Try.prog 17 #[.slice none 0 0, .int .u64 (x : Int), .int .i64 n] w (MadeB w (C.be x (C.clamp8 n))) := by
  have := put_any none 0 [] x n w w.heap.size (by simp) (fun _ => ⟨rfl, rfl⟩) Rd.nil (Nat.le_refl _) hx
  exact this

set_option maxHeartbeats 400000 in
theorem new_any (A : Option Addr) (c : Nat) (l : List UInt8) (w : World) (B : Nat) (hc : l.length ≤ c) (hm : c ≤ maxLen) (hA : A = none → l = [] ∧ c = 0) (hr : Rd w B A (bc l)) (hB : B ≤ w.heap.size) :
    Calls Try.prog 21 #[.slice A l.length c] w fun e w' => e = .returned (.pointer (some ⟨w.heap.size, 0, none⟩)) ∧ RdrAt w' B w.heap.size (l, false) ∧ Below w.heap.size w w' := by
  obtain ⟨n, hn⟩ : ∃ n, n = l.length := ⟨_, rfl⟩
  have HN := Lib.hid hn
  rw [← hn]
  clear hn
  go_enter Try.func21, Try.ntmps21
  go_wp2
  go_ret
  refine ⟨rfl, ⟨A, c, ?_, hc, hm, hA, hr.alloc hB _, hB⟩, (Below.refl _ _).alloc (Nat.le_refl _) _⟩
  rw [← HN.out]
  exact heap_alloc_new w _

set_option maxHeartbeats 400000 in
theorem c_awake (w : World) : Calls Try.prog 15 #[] w fun e w' => e = .returned (.bool true) ∧ Below w.heap.size w w' := by
  go_enter Try.func15, Try.ntmps15
  go_wp2_with fail
  refine (put_nil 258 2 w (by omega)).mono ?_
  rintro e w1 ⟨v, rfl, hown, hb1⟩
  obtain ⟨A, c, rfl, _, _, _⟩ := ownShape hown
  have hl : (C.be 258 (C.clamp8 2)).length = 2 := by decide
  rw [hl]
  clear hown
  go_wp2_with fail
  refine (new_any none 0 [] w1 w1.heap.size (by simp) (by simp [maxLen]) (fun _ => ⟨rfl, rfl⟩) Rd.nil (Nat.le_refl _)).mono ?_
  rintro e w2 ⟨rfl, hR, hb2⟩
  go_wp2_with fail
  refine (end_any _ _ _ w2 hR).mono ?_
  rintro e w' ⟨rfl, rfl⟩
  go_wp2
  go_ret
  exact ⟨rfl, hb1.trans (hb2.mono hb1.size)⟩
theorem belowOfDrewN {B n : Nat} {w w' : World} (h : Below B (w.drewN n) w') : Below B w w' := ⟨h.os, h.tape, h.output, h.size, h.block⟩
end Go.Proofs.Ytmlchhfahpcohaa
