/- The walk of the law FrameSums. -/
import Derived.Test.YtmlchhfahpcohaaFrameW
import Derived.Test.YtmlchhfahpcohaaSlices
import Derived.Lib.SlBytesConst
namespace Go.Proofs.Ytmlchhfahpcohaa
open Go.RowKit
set_option linter.unusedSimpArgs false
set_option linter.unusedVariables false

def F.nine : List UInt8 := [49, 50, 51, 52, 53, 54, 55, 56, 57]
theorem F.sum_nine : F.sum F.nine = 3421780262 := by decide +kernel

set_option maxHeartbeats 800000 in
theorem f_awake (w : World) : Calls Try.prog 31 #[] w fun e w' => e = .returned (.bool true) ∧ Below w.heap.size w w' := by
  have kc := fun (w : World) (C : Array Value) (n c : Nat) => Lib.run_convert_bytes_const (P := Try.prog) w 22 5 C n c Try.underlying22 Try.underlying5
  have R := Lib.hid (rdAlloc w (bc F.nine) 5 (9, 10))
  have S := Lib.hid F.sum_nine
  go_enter Try.func31, Try.ntmps31
  go_wp2_with fail
  refine (sum_any (some ⟨w.heap.size, 0, none⟩) 9 F.nine _ (w.heap.size + 1) (by decide) (by decide) R.out).mono ?_
  rintro e w' ⟨rfl, rfl⟩
  rw [S.out]
  go_wp2_with fail
  go_ret
  exact ⟨rfl, (Below.refl _ _).alloc (Nat.le_refl _) _⟩

set_option maxHeartbeats 1600000 in
theorem fsums (A : Option Addr) (c : Nat) (l : List UInt8) (w : World) (hc : l.length ≤ c) (hA : A = none → l = [] ∧ c = 0) (hr : Rd w w.heap.size A (bc l)) :
    Calls Try.prog 5 #[.slice A l.length c] w fun e w' => e = .returned (.bool true) ∧ Below w.heap.size w w' := by
  by_cases hl : 70000 < l.length
  · generalize l.length = n at *
    go_enter Try.func5, Try.ntmps5
    go_wp2_with fail
    refine (f_awake _).mono ?_
    rintro e w1 ⟨rfl, hb1⟩
    go_wp2_with fail
    refine (f_awake _).mono ?_
    rintro e w2 ⟨rfl, hb2⟩
    go_wp2_with fail
    go_ret
    exact ⟨rfl, hb1.trans (hb2.mono hb1.size)⟩
  · have hp : (F.wrap l).1.length ≤ 70008 := by
      by_cases h6 : l.length ≤ 60000
      · rw [F.wrap_len h6]; omega
      · unfold F.wrap; rw [if_pos (by omega)]; simp
    obtain ⟨p, hpe⟩ : ∃ p, p = F.wrap l := ⟨_, rfl⟩
    have hw1 := fun w B h1 h2 => wrap_any A c l w B (by omega) hc hA h1 h2
    have hw2 := fun w B h1 h2 => rwrap_any A c l w B (by omega) hc hA h1 h2
    have hs1 := fun w B h1 => sum_any A c l w B (by omega) hc h1
    have hs2 := fun w B h1 => rsum_any A c l w B (by omega) hc h1
    rw [← hpe] at hp hw1 hw2
    have HW1 := Lib.hid hw1
    have HW2 := Lib.hid hw2
    have HS1 := Lib.hid hs1
    have HS2 := Lib.hid hs2
    clear hw1 hw2 hs1 hs2 hpe
    generalize F.sum l = s at HS1 HS2
    obtain ⟨p, q⟩ := p
    simp only at hp
    generalize l.length = n at *
    go_enter Try.func5, Try.ntmps5
    go_wp2_with fail
    refine (f_awake _).mono ?_
    rintro e w1 ⟨rfl, b1⟩
    go_wp2_with fail
    refine (HW1.out w1 w.heap.size (hr.below b1) b1.size).mono ?_
    rintro e w2 ⟨v2, rfl, own2, b2⟩
    have b2' := b1.trans (b2.mono b1.size)
    obtain ⟨A2, c2, rfl, hc2, hA2, hm2⟩ := ownShape own2
    go_wp2_with fail
    refine (HW2.out w2 w.heap.size (hr.below b2') b2'.size).mono ?_
    rintro e w3 ⟨v3, rfl, own3, b3⟩
    have b3' := b2'.trans (b3.mono b2'.size)
    have r2 := (Rd.ofOwn own2).below b3
    obtain ⟨A3, c3, rfl, hc3, hA3, hm3⟩ := ownShape own3
    go_wp2_with fail
    refine (HS1.out w3 w.heap.size (hr.below b3')).mono ?_
    rintro e w' ⟨rfl, rfl⟩
    go_wp2_with fail
    refine (HS2.out w3 w.heap.size (hr.below b3')).mono ?_
    rintro e w' ⟨rfl, rfl⟩
    go_wp2_with fail
    refine (same_any A2 A3 c2 c3 p w3 _ _ (by omega) r2 (Rd.ofOwn own3) hc2 hc3).mono ?_
    rintro e w4 ⟨rfl, nn, rfl⟩
    go_wp2_with fail
    go_ret
    exact ⟨rfl, belowDrewN b3' _⟩

theorem frameSums_walk (W : World) (v0 : Value) (h0 : Arg W 22 v0) :
    Calls Try.prog 5 #[v0] W fun e W' => e = .returned (.bool true) ∧ Below W.heap.size W W' := by
  obtain ⟨A, c, l, rfl, hc, _, hA, hr⟩ := h0.bytes Try.underlying22
  exact fsums A c l W hc hA hr
end Go.Proofs.Ytmlchhfahpcohaa
