/- The walk of the law BallotTells. -/
import Derived.Test.YtfpblaggnehnoaaBallotWalks
namespace Go.Proofs.Ytfpblaggnehnoaa
open Go.RowKit
set_option linter.unusedSimpArgs false
set_option linter.unusedVariables false

set_option maxHeartbeats 1600000 in
theorem btells (r1 : Nat) (n1 : Int) (r2 : Nat) (n2 k : Int) (w : World) (h1 : r1 < 4294967296) (h2 : r2 < 4294967296) :
    Calls Try.prog 5 #[bal r1 n1, bal r2 n2, .int .i64 k] w fun e w' => e = .returned (.bool true) ∧ Below w.heap.size w w' := by
  have hnx : ∃ x : Nat × Int × Int, x = B.next r1 n1 k := ⟨_, rfl⟩
  obtain ⟨x, hx⟩ := hnx
  have HX := Lib.hid hx
  clear hx
  obtain ⟨xr, xn, xe⟩ := x
  go_enter Try.func5, Try.ntmps5
  go_wp2_with fail
  refine (next_any r1 n1 k _ h1).mono ?_
  rw [← HX.out]
  rintro e w1 ⟨rfl, hb1⟩
  have p1 : w1.cell? ⟨w.heap.size, 0, none⟩ = some (.int .u32 (r1 : Int)) := cellB hb1 (by simp)
  have p2 : w1.cell? ⟨w.heap.size, 1, none⟩ = some (.int .i64 n1) := cellB hb1 (by simp)
  have p3 : w1.cell? ⟨w.heap.size + 1, 0, none⟩ = some (.int .u32 (r2 : Int)) := cellB hb1 (by simp)
  have p4 : w1.cell? ⟨w.heap.size + 1, 1, none⟩ = some (.int .i64 n2) := cellB hb1 (by simp)
  have hz1 : w.heap.size + 2 ≤ w1.heap.size := by have := hb1.size; simpa using this
  have hz1a : w.heap.size < w1.heap.size := by omega
  have hz1b : w.heap.size + 1 < w1.heap.size := by omega
  have hB1 : Below w.heap.size w w1 := (((Below.refl _ _).alloc (Nat.le_refl _) _).alloc (by simp) _).trans (hb1.mono (by simp; omega))
  clear hb1
  go_wp2_with fail
  refine (rnext_any r1 n1 k _ h1).mono ?_
  rw [← HX.out]
  rintro e w2 ⟨rfl, hb2⟩
  have hz2 : w1.heap.size + 1 ≤ w2.heap.size := by have := hb2.size; simpa using this
  have hB2 : Below w.heap.size w w2 := (hB1.alloc (by omega) _).trans (hb2.mono (by simp; omega))
  have q1 := cellB hb2 (cellA _ p1)
  have q2 := cellB hb2 (cellA _ p2)
  have q3 := cellB hb2 (cellA _ p3)
  have q4 := cellB hb2 (cellA _ p4)
  have q5 : w2.cell? ⟨w1.heap.size, 0, none⟩ = some (.int .u32 (xr : Int)) := cellB hb2 (by simp)
  have q6 : w2.cell? ⟨w1.heap.size, 1, none⟩ = some (.int .i64 xn) := cellB hb2 (by simp)
  clear hb2 p1 p2 p3 p4 hB1
  go_upto_region 3 with fail
  obtain ⟨wr, hwr⟩ : ∃ wr, wr = w2.alloc (.cells #[.int .u32 (xr : Int), .int .i64 xn] 28) := ⟨_, rfl⟩
  rw [← hwr]
  have k0 : wr.cell? ⟨w.heap.size, 0, none⟩ = some (.int .u32 (r1 : Int)) ∧ wr.cell? ⟨w.heap.size, 1, none⟩ = some (.int .i64 n1) ∧ wr.cell? ⟨w.heap.size + 1, 0, none⟩ = some (.int .u32 (r2 : Int)) ∧ wr.cell? ⟨w.heap.size + 1, 1, none⟩ = some (.int .i64 n2) ∧ wr.cell? ⟨w1.heap.size, 0, none⟩ = some (.int .u32 (xr : Int)) ∧ wr.cell? ⟨w1.heap.size, 1, none⟩ = some (.int .i64 xn) ∧ wr.cell? ⟨w2.heap.size, 0, none⟩ = some (.int .u32 (xr : Int)) ∧ wr.cell? ⟨w2.heap.size, 1, none⟩ = some (.int .i64 xn) := by
    rw [hwr]
    exact ⟨cellA _ q1, cellA _ q2, cellA _ q3, cellA _ q4, cellA _ q5, cellA _ q6, by simp, by simp⟩
  have hB3 : Below w.heap.size w wr := by rw [hwr]; exact hB2.alloc hB2.size _
  clear hwr q1 q2 q3 q4 q5 q6 hB2
  go_cut [6] (fun u wx => u = .bool true ∧ Below w.heap.size w wx)
  case first =>
    go_region_held3 (fun w' => w'.cell? ⟨w.heap.size, 0, none⟩ = some (.int .u32 (r1 : Int)) ∧ w'.cell? ⟨w.heap.size, 1, none⟩ = some (.int .i64 n1) ∧ w'.cell? ⟨w.heap.size + 1, 0, none⟩ = some (.int .u32 (r2 : Int)) ∧ w'.cell? ⟨w.heap.size + 1, 1, none⟩ = some (.int .i64 n2) ∧ w'.cell? ⟨w1.heap.size, 0, none⟩ = some (.int .u32 (xr : Int)) ∧ w'.cell? ⟨w1.heap.size, 1, none⟩ = some (.int .i64 xn) ∧ w'.cell? ⟨w2.heap.size, 0, none⟩ = some (.int .u32 (xr : Int)) ∧ w'.cell? ⟨w2.heap.size, 1, none⟩ = some (.int .i64 xn)) (first | exact k0 | exact k1 | exact k2 | exact k3 | exact k4 | exact k5) (first | (go_at_call 18; refine (b_awake _).mono ?_; rintro e v1 ⟨rfl, g1⟩; have g1z := belowOfDrewX g1; have k1 : v1.cell? ⟨w.heap.size, 0, none⟩ = some (.int .u32 (r1 : Int)) ∧ v1.cell? ⟨w.heap.size, 1, none⟩ = some (.int .i64 n1) ∧ v1.cell? ⟨w.heap.size + 1, 0, none⟩ = some (.int .u32 (r2 : Int)) ∧ v1.cell? ⟨w.heap.size + 1, 1, none⟩ = some (.int .i64 n2) ∧ v1.cell? ⟨w1.heap.size, 0, none⟩ = some (.int .u32 (xr : Int)) ∧ v1.cell? ⟨w1.heap.size, 1, none⟩ = some (.int .i64 xn) ∧ v1.cell? ⟨w2.heap.size, 0, none⟩ = some (.int .u32 (xr : Int)) ∧ v1.cell? ⟨w2.heap.size, 1, none⟩ = some (.int .i64 xn) := ⟨cellB g1z k0.1, cellB g1z k0.2.1, cellB g1z k0.2.2.1, cellB g1z k0.2.2.2.1, cellB g1z k0.2.2.2.2.1, cellB g1z k0.2.2.2.2.2.1, cellB g1z k0.2.2.2.2.2.2.1, cellB g1z k0.2.2.2.2.2.2.2⟩; have b1 : Below w.heap.size w v1 := hB3.trans (g1z.mono hB3.size)) | (go_at_call 24; refine (formed_any r1 n1 _).mono ?_; rintro e v2 ⟨rfl, g2⟩; have k2 : v2.cell? ⟨w.heap.size, 0, none⟩ = some (.int .u32 (r1 : Int)) ∧ v2.cell? ⟨w.heap.size, 1, none⟩ = some (.int .i64 n1) ∧ v2.cell? ⟨w.heap.size + 1, 0, none⟩ = some (.int .u32 (r2 : Int)) ∧ v2.cell? ⟨w.heap.size + 1, 1, none⟩ = some (.int .i64 n2) ∧ v2.cell? ⟨w1.heap.size, 0, none⟩ = some (.int .u32 (xr : Int)) ∧ v2.cell? ⟨w1.heap.size, 1, none⟩ = some (.int .i64 xn) ∧ v2.cell? ⟨w2.heap.size, 0, none⟩ = some (.int .u32 (xr : Int)) ∧ v2.cell? ⟨w2.heap.size, 1, none⟩ = some (.int .i64 xn) := ⟨cellB g2 k1.1, cellB g2 k1.2.1, cellB g2 k1.2.2.1, cellB g2 k1.2.2.2.1, cellB g2 k1.2.2.2.2.1, cellB g2 k1.2.2.2.2.2.1, cellB g2 k1.2.2.2.2.2.2.1, cellB g2 k1.2.2.2.2.2.2.2⟩; have b2 : Below w.heap.size w v2 := b1.trans (g2.mono b1.size)) | (go_at_call 25; refine (rformed_any r1 n1 _).mono ?_; rintro e v3 ⟨rfl, g3⟩; have k3 : v3.cell? ⟨w.heap.size, 0, none⟩ = some (.int .u32 (r1 : Int)) ∧ v3.cell? ⟨w.heap.size, 1, none⟩ = some (.int .i64 n1) ∧ v3.cell? ⟨w.heap.size + 1, 0, none⟩ = some (.int .u32 (r2 : Int)) ∧ v3.cell? ⟨w.heap.size + 1, 1, none⟩ = some (.int .i64 n2) ∧ v3.cell? ⟨w1.heap.size, 0, none⟩ = some (.int .u32 (xr : Int)) ∧ v3.cell? ⟨w1.heap.size, 1, none⟩ = some (.int .i64 xn) ∧ v3.cell? ⟨w2.heap.size, 0, none⟩ = some (.int .u32 (xr : Int)) ∧ v3.cell? ⟨w2.heap.size, 1, none⟩ = some (.int .i64 xn) := ⟨cellB g3 k2.1, cellB g3 k2.2.1, cellB g3 k2.2.2.1, cellB g3 k2.2.2.2.1, cellB g3 k2.2.2.2.2.1, cellB g3 k2.2.2.2.2.2.1, cellB g3 k2.2.2.2.2.2.2.1, cellB g3 k2.2.2.2.2.2.2.2⟩; have b3 : Below w.heap.size w v3 := b2.trans (g3.mono b2.size)) | (go_at_call 21; refine (less_any r1 n1 r2 n2 _).mono ?_; rintro e v4 ⟨rfl, g4⟩; have k4 : v4.cell? ⟨w.heap.size, 0, none⟩ = some (.int .u32 (r1 : Int)) ∧ v4.cell? ⟨w.heap.size, 1, none⟩ = some (.int .i64 n1) ∧ v4.cell? ⟨w.heap.size + 1, 0, none⟩ = some (.int .u32 (r2 : Int)) ∧ v4.cell? ⟨w.heap.size + 1, 1, none⟩ = some (.int .i64 n2) ∧ v4.cell? ⟨w1.heap.size, 0, none⟩ = some (.int .u32 (xr : Int)) ∧ v4.cell? ⟨w1.heap.size, 1, none⟩ = some (.int .i64 xn) ∧ v4.cell? ⟨w2.heap.size, 0, none⟩ = some (.int .u32 (xr : Int)) ∧ v4.cell? ⟨w2.heap.size, 1, none⟩ = some (.int .i64 xn) := ⟨cellB g4 k3.1, cellB g4 k3.2.1, cellB g4 k3.2.2.1, cellB g4 k3.2.2.2.1, cellB g4 k3.2.2.2.2.1, cellB g4 k3.2.2.2.2.2.1, cellB g4 k3.2.2.2.2.2.2.1, cellB g4 k3.2.2.2.2.2.2.2⟩; have b4 : Below w.heap.size w v4 := b3.trans (g4.mono b3.size)) | (go_at_call 26; refine (rless_any r1 n1 r2 n2 _).mono ?_; rintro e v5 ⟨rfl, g5⟩; have k5 : v5.cell? ⟨w.heap.size, 0, none⟩ = some (.int .u32 (r1 : Int)) ∧ v5.cell? ⟨w.heap.size, 1, none⟩ = some (.int .i64 n1) ∧ v5.cell? ⟨w.heap.size + 1, 0, none⟩ = some (.int .u32 (r2 : Int)) ∧ v5.cell? ⟨w.heap.size + 1, 1, none⟩ = some (.int .i64 n2) ∧ v5.cell? ⟨w1.heap.size, 0, none⟩ = some (.int .u32 (xr : Int)) ∧ v5.cell? ⟨w1.heap.size, 1, none⟩ = some (.int .i64 xn) ∧ v5.cell? ⟨w2.heap.size, 0, none⟩ = some (.int .u32 (xr : Int)) ∧ v5.cell? ⟨w2.heap.size, 1, none⟩ = some (.int .i64 xn) := ⟨cellB g5 k4.1, cellB g5 k4.2.1, cellB g5 k4.2.2.1, cellB g5 k4.2.2.2.1, cellB g5 k4.2.2.2.2.1, cellB g5 k4.2.2.2.2.2.1, cellB g5 k4.2.2.2.2.2.2.1, cellB g5 k4.2.2.2.2.2.2.2⟩; have b5 : Below w.heap.size w v5 := b4.trans (g5.mono b4.size)))
    all_goals
      go_wp2_with fail
      go_meet
      exact ⟨rfl, b5⟩
  case rest =>
    obtain ⟨rfl, hbc⟩ := hcut
    go_wp2_with fail
    go_ret
    exact ⟨rfl, hbc⟩

theorem ballotTells_walk (W : World) (v0 v1 v2 : Value) (h0 : Arg W 27 v0) (h1 : Arg W 27 v1) (h2 : Arg W 3 v2) :
    Calls Try.prog 5 #[v0, v1, v2] W fun e W' => e = .returned (.bool true) ∧ Below W.heap.size W W' := by
  obtain ⟨r1, n1, rfl, hr1, _⟩ := h0.bal
  obtain ⟨r2, n2, rfl, hr2, _⟩ := h1.bal
  obtain ⟨k, rfl, _, _⟩ := h2.i64 Try.underlying3
  exact btells r1 n1 r2 n2 k W hr1 hr2
end Go.Proofs.Ytfpblaggnehnoaa
