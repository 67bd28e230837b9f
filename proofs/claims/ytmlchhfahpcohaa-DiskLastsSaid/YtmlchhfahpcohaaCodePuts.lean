/- The walk of the law CodePuts. -/
import Derived.Test.YtmlchhfahpcohaaCodeNew
import Derived.Test.YtmlchhfahpcohaaArgs
import Derived.Deep.RegionHeld3
namespace Go.Proofs.Ytmlchhfahpcohaa
open Go.RowKit
set_option linter.unusedSimpArgs false
set_option linter.unusedVariables false

set_option maxHeartbeats 1600000 in
theorem puts_mid (A : Option Addr) (c : Nat) (l : List UInt8) (x y : Nat) (s : ByteArray) (w : World) (hc : l.length ≤ c) (hA : A = none → l = [] ∧ c = 0) (hr : Rd w w.heap.size A (bc l)) (hx : x < 18446744073709551616) (hy : y < 18446744073709551616) (hs : s.size ≤ 9223372036854775807) :
    Calls Try.prog 3 #[.slice A l.length c, .agg #[.int .u64 (x : Int), .int .u64 (y : Int)], .string s] w fun e w' => e = .returned (.bool true) ∧ Below w.heap.size w w' := by
  by_cases hl : 1000 < l.length
  · go_enter Try.func3, Try.ntmps3
    go_wp2_with fail
    refine (c_awake _).mono ?_
    rintro e w1 ⟨rfl, hb1⟩
    go_wp2_with fail
    refine (c_awake _).mono ?_
    rintro e w2 ⟨rfl, hb2⟩
    go_wp2_with fail
    go_ret
    exact ⟨rfl, (((Below.refl _ _).alloc (Nat.le_refl _) _).trans (hb1.mono (by simp))).trans (hb2.mono (by have := hb1.size; simp at this; omega))⟩
  · by_cases hs2 : 70000 < s.size
    · go_enter Try.func3, Try.ntmps3
      go_wp2_with fail
      refine (c_awake _).mono ?_
      rintro e w1 ⟨rfl, hb1⟩
      go_wp2_with fail
      refine (c_awake _).mono ?_
      rintro e w2 ⟨rfl, hb2⟩
      go_wp2_with fail
      go_ret
      exact ⟨rfl, (((Below.refl _ _).alloc (Nat.le_refl _) _).trans (hb1.mono (by simp))).trans (hb2.mono (by have := hb1.size; simp at this; omega))⟩
    · go_enter Try.func3, Try.ntmps3
      go_wp2_with fail
      refine (c_awake _).mono ?_
      rintro e w1 ⟨rfl, hb1⟩
      have hsz : w.heap.size + 1 ≤ w1.heap.size := by have := hb1.size; simpa using this
      have hcx : w1.cell? ⟨w.heap.size, 0, none⟩ = some (.int .u64 (x : Int)) := by rw [hb1.cell (by simp)]; simp
      have hcy : w1.cell? ⟨w.heap.size, 1, none⟩ = some (.int .u64 (y : Int)) := by rw [hb1.cell (by simp)]; simp
      have hb0 : Below w.heap.size w w1 := ((Below.refl _ _).alloc (Nat.le_refl _) _).trans (hb1.mono (by simp))
      clear hb1
      go_upto_region 4 with fail
      have hn1 : -1000 ≤ (y : Int) % 20 - 5 := by omega
      have hn2 : (y : Int) % 20 - 5 ≤ 1000 := by omega
      generalize (y : Int) % 20 - 5 = n at hn1 hn2 ⊢
      have hlen : l.length ≤ 1000 := by omega
      have hput : (C.put l x n).length ≤ 1008 := by unfold C.put; rw [List.length_append, C.be_len]; have := C.clamp8_le n; omega
      have hptx : (C.putText l s.data.toList).length ≤ 70000 := by
        unfold C.putText; simp only [List.length_append, C.be_len, List.length_take, list_size]; omega
      go_cut [6] (fun u wx => u = .bool true ∧ Below w.heap.size w wx)
      case first =>
        go_region_held3 (fun w' => w'.cell? ⟨w.heap.size, 0, none⟩ = some (.int .u64 (x : Int))) (first | exact hcx | exact hk2 | exact hk3 | exact hk4 | exact hk5) (first | (go_at_call 17; refine (put_any A c l x n _ w.heap.size (by omega) hA (by exact hr.below (hb0.drew)) (by exact hb0.size) hx).mono ?_; rintro e w2 ⟨v2, rfl, hown2, hb2⟩; obtain ⟨A2, c2, rfl, hc2, _, _⟩ := ownShape hown2; have hb2' : Below w.heap.size w w2 := hb0.trans ((belowOfDrew hb2).mono hb0.size); have hk2 : w2.cell? ⟨w.heap.size, 0, none⟩ = some (.int .u64 (x : Int)) := (hb2.cell (by simp; omega)).trans hcx) | (go_at_call 18; refine (rput_any A c l x n _ w.heap.size (by omega) hA (by exact hr.below hb2') (by exact hb2'.size) hx hn1 hn2).mono ?_; rintro e w3 ⟨v3, rfl, hown3, hb3⟩; obtain ⟨A3, c3, rfl, hc3, _, _⟩ := ownShape hown3; have hb3' : Below w.heap.size w w3 := hb2'.trans (hb3.mono hb2'.size); have hk3 : w3.cell? ⟨w.heap.size, 0, none⟩ = some (.int .u64 (x : Int)) := (hb3.cell (Nat.lt_of_lt_of_le (by simp; omega) hb2.size)).trans hk2) | (go_at_call 19; refine (puttext_any A c l s _ w.heap.size (by omega) hA (by exact hr.below (belowDrewN hb3' _)) (by exact hb3'.size) hs).mono ?_; rintro e w4 ⟨v4, rfl, hown4, hb4⟩; obtain ⟨A4, c4, rfl, hc4, _, _⟩ := ownShape hown4; have hb4' : Below w.heap.size w w4 := hb3'.trans ((belowOfDrewN hb4).mono hb3'.size); have hk4 : w4.cell? ⟨w.heap.size, 0, none⟩ = some (.int .u64 (x : Int)) := (hb4.cell (Nat.lt_of_lt_of_le (by simp; omega) (Nat.le_trans hb2.size hb3.size))).trans hk3) | (go_at_call 20; refine (rputtext_any A c l s _ w.heap.size (by omega) hA (by exact hr.below hb4') (by exact hb4'.size) hs).mono ?_; rintro e w5 ⟨v5, rfl, hown5, hb5⟩; obtain ⟨A5, c5, rfl, hc5, _, _⟩ := ownShape hown5; have hb5' : Below w.heap.size w w5 := hb4'.trans (hb5.mono hb4'.size); have hk5 : w5.cell? ⟨w.heap.size, 0, none⟩ = some (.int .u64 (x : Int)) := (hb5.cell (Nat.lt_of_lt_of_le (by simp; omega) (Nat.le_trans (Nat.le_trans hb2.size hb3.size) hb4.size))).trans hk4) | (go_at_call_of 16 (Value.slice A2 (C.put l x n).length c2); refine (same_any A2 A3 c2 c3 (C.put l x n) _ _ _ (by omega) (by exact (Rd.ofOwn hown2).below hb3) (by exact Rd.ofOwn hown3) hc2 hc3).mono ?_; rintro e w' ⟨rfl, m1, rfl⟩) | (go_at_call_of 16 (Value.slice A4 (C.putText l s.data.toList).length c4); refine (same_any A4 A5 c4 c5 (C.putText l s.data.toList) _ _ _ (by omega) (by exact (Rd.ofOwn hown4).below hb5) (by exact Rd.ofOwn hown5) hc4 hc5).mono ?_; rintro e w' ⟨rfl, m2, rfl⟩))
        all_goals
          go_wp2_with fail
          go_meet
          exact ⟨rfl, belowDrewN hb5' _⟩
      case rest =>
        obtain ⟨rfl, hbc⟩ := hcut
        go_wp2_with fail
        go_ret
        exact ⟨rfl, hbc⟩

theorem codePuts_walk (W : World) (v0 v1 v2 : Value) (h0 : Arg W 22 v0) (h1 : Arg W 24 v1) (h2 : Arg W 9 v2) :
    Calls Try.prog 3 #[v0, v1, v2] W fun e W' => e = .returned (.bool true) ∧ Below W.heap.size W W' := by
  obtain ⟨A, c, l, rfl, hc, _, hA, hr⟩ := h0.bytes Try.underlying22
  obtain ⟨x, y, rfl, hx, hy⟩ := h1.u64pair Try.underlying24 Try.underlying23 (by kernel_rfl) (by kernel_rfl)
  obtain ⟨s, rfl, hs⟩ := h2.string Try.underlying9
  exact puts_mid A c l x y s W hc hA hr hx hy (by unfold maxLen at hs; omega)
end Go.Proofs.Ytmlchhfahpcohaa
