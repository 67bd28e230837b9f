/- The walk of the law BallotBytes. -/
import Derived.Test.YtfpblaggnehnoaaBallotIO
namespace Go.Proofs.Ytfpblaggnehnoaa
open Go.RowKit
set_option linter.unusedSimpArgs false
set_option linter.unusedVariables false

set_option maxHeartbeats 3200000 in
theorem bbytes (r : Nat) (n : Int) (A : Option Addr) (c : Nat) (l : List UInt8) (w : World) (hx : r < 4294967296) (hc : l.length ≤ c) (hm : c ≤ maxLen) (hA : A = none → l = [] ∧ c = 0) (hr : Rd w w.heap.size A (bc l)) :
    Calls Try.prog 16 #[bal r n, .slice A l.length c] w fun e w' => e = .returned (.bool true) ∧ Below w.heap.size w w' := by
  by_cases hl : 1000 < l.length
  · go_enter Try.func16, Try.ntmps16
    go_wp2_with fail
    refine (b_awake _).mono ?_
    rintro e w1 ⟨rfl, hb1⟩
    go_wp2_with fail
    refine (b_awake _).mono ?_
    rintro e w2 ⟨rfl, hb2⟩
    go_wp2_with fail
    go_ret
    exact ⟨rfl, (((Below.refl _ _).alloc (Nat.le_refl _) _).trans (hb1.mono (by simp))).trans (hb2.mono (by have := hb1.size; simp at this; omega))⟩
  · have hl1 : l.length ≤ 1000 := by omega
    go_enter Try.func16, Try.ntmps16
    go_wp2_with fail
    refine (b_awake _).mono ?_
    rintro e w1 ⟨rfl, hb1⟩
    have p0 : w1.cell? ⟨w.heap.size, 0, none⟩ = some (.int .u32 (r : Int)) := cellB hb1 (by simp)
    have p1 : w1.cell? ⟨w.heap.size, 1, none⟩ = some (.int .i64 n) := cellB hb1 (by simp)
    have hB1 : Below w.heap.size w w1 := ((Below.refl _ _).alloc (Nat.le_refl _) _).trans (hb1.mono (by simp))
    have hs1 : w.heap.size + 1 ≤ w1.heap.size := by have := hb1.size; simpa using this
    clear hb1
    go_wp2_with fail
    refine (new_any A c l w1 w.heap.size hc hm hA (hr.below hB1) hB1.size).mono ?_
    rintro e w2 ⟨rfl, hR2, hb2⟩
    have p0 := cellA (.cells #[.slice A l.length c, .int .i64 0, .bool false] 74) (cellB hb2 p0)
    have p1 := cellA (.cells #[.slice A l.length c, .int .i64 0, .bool false] 74) (cellB hb2 p1)
    have hB2 := hB1.trans (hb2.mono hB1.size)
    have hlt2 : w1.heap.size < w2.heap.size := by obtain ⟨_, _, hq, _⟩ := hR2; exact ltAt hq
    have hF2 : RefAt (w2.alloc (.cells #[.slice A l.length c, .int .i64 0, .bool false] 74)) w.heap.size w2.heap.size (l, false) :=
      ⟨A, c, l, 0, heap_alloc_new w2 _, Nat.zero_le _, by omega, hc, (hr.below hB2).alloc (by omega) _, by omega, by simp⟩
    have hR2 := hR2.alloc (.cells #[.slice A l.length c, .int .i64 0, .bool false] 74)
    have hB2 := hB2.alloc hB2.size (.cells #[.slice A l.length c, .int .i64 0, .bool false] 74)
    clear hb2
    go_wp2_with fail
    refine (btake_any w.heap.size w1.heap.size (l, false) _ hR2).mono ?_
    rintro e w3 ⟨rfl, hR3, g3⟩
    have p0 := g3.cell p0 (by simp; omega)
    have p1 := g3.cell p1 (by simp; omega)
    have hF3 := hF2.other g3 (by omega) (by omega)
    have hB3 := hB2.grown g3 hB2.size (fun q hq => by injection hq with hq; omega)
    have hs3 : w2.heap.size + 1 ≤ w3.heap.size := by have := g3.size; simpa using this
    clear g3 hF2 hR2 hB2
    go_wp2_with fail
    refine (rbtake_any w.heap.size w2.heap.size (l, false) _ hF3).mono ?_
    rintro e w4 ⟨rfl, hF4, g4⟩
    have p0 := g4.cell p0 (by simp; omega)
    have p1 := g4.cell p1 (by simp; omega)
    have hR4 := hR3.other g4 (by omega) (by omega)
    have hB4 := hB3.grown g4 hB3.size (fun q hq => by injection hq with hq; omega)
    have hs4 := g4.size
    clear g4 hF3 hR3 hB3
    generalize B.take (l, false) = T at hR4 hF4 ⊢
    obtain ⟨⟨y0, y1⟩, ls, f⟩ := T
    simp only at hR4 hF4
    go_upto_region 5 with fail
    obtain ⟨wr, hwr⟩ : ∃ wr, wr = (w4.alloc (.cells #[.int .u32 (y0 : Int), .int .i64 (y1 : Int)] 27)).alloc (.cells #[.int .u32 (y0 : Int), .int .i64 (y1 : Int)] 28) := ⟨_, rfl⟩
    rw [← hwr]
    have k : wr.cell? ⟨w.heap.size, 0, none⟩ = some (.int .u32 (r : Int)) ∧ wr.cell? ⟨w.heap.size, 1, none⟩ = some (.int .i64 n) ∧ wr.cell? ⟨w4.heap.size, 0, none⟩ = some (.int .u32 (y0 : Int)) ∧ wr.cell? ⟨w4.heap.size, 1, none⟩ = some (.int .i64 (y1 : Int)) ∧ wr.cell? ⟨w4.heap.size + 1, 0, none⟩ = some (.int .u32 (y0 : Int)) ∧ wr.cell? ⟨w4.heap.size + 1, 1, none⟩ = some (.int .i64 (y1 : Int)) ∧ wr.cell? ⟨w2.heap.size, 2, none⟩ = some (.bool f) := by
      rw [hwr]
      exact ⟨cellA _ (cellA _ p0), cellA _ (cellA _ p1), cellA _ (by simp), cellA _ (by simp), by simp, by simp, cellA _ (cellA _ hF4.cell)⟩
    have hB5 : Below w.heap.size w wr := by rw [hwr]; exact (hB4.alloc hB4.size _).alloc (by have := hB4.size; simp; omega) _
    have hR5 : RdrAt wr w.heap.size w1.heap.size (ls, f) := by rw [hwr]; exact (hR4.alloc _).alloc _
    have hF5 : RefAt wr w.heap.size w2.heap.size (ls, f) := by rw [hwr]; exact (hF4.alloc _).alloc _
    have hr5 := hr.below hB5
    have hput : (B.put l r n).length ≤ 1099511627776 := by
      unfold B.put C.put; simp only [List.length_append, C.be_len]; have := C.clamp8_le 4; have := C.clamp8_le 1; omega
    clear hwr p0 p1 hB4 hR4 hF4
    cases f with
    | false =>
      go_cut [4] (fun u wx => u = .bool true ∧ Below w.heap.size w wx)
      case first =>
        go_region_held3 (fun w' => w'.cell? ⟨w.heap.size, 0, none⟩ = some (.int .u32 (r : Int)) ∧ w'.cell? ⟨w.heap.size, 1, none⟩ = some (.int .i64 n) ∧ w'.cell? ⟨w4.heap.size, 0, none⟩ = some (.int .u32 (y0 : Int)) ∧ w'.cell? ⟨w4.heap.size, 1, none⟩ = some (.int .i64 (y1 : Int)) ∧ w'.cell? ⟨w4.heap.size + 1, 0, none⟩ = some (.int .u32 (y0 : Int)) ∧ w'.cell? ⟨w4.heap.size + 1, 1, none⟩ = some (.int .i64 (y1 : Int)) ∧ w'.cell? ⟨w2.heap.size, 2, none⟩ = some (.bool false)) (exact k) (first | (go_at_call 59; refine (bput_any A c l r n _ w.heap.size (by omega) hA (by exact hr5) (by exact hB5.size) hx).mono ?_; rintro e v1 ⟨u1, rfl, o1, g1⟩; have g1 := belowOfDrew g1; obtain ⟨A2, c2, rfl, hc2, _, _⟩ := ownShape o1; have b := hB5.trans (g1.mono hB5.size); have k : v1.cell? ⟨w.heap.size, 0, none⟩ = some (.int .u32 (r : Int)) ∧ v1.cell? ⟨w.heap.size, 1, none⟩ = some (.int .i64 n) ∧ v1.cell? ⟨w4.heap.size, 0, none⟩ = some (.int .u32 (y0 : Int)) ∧ v1.cell? ⟨w4.heap.size, 1, none⟩ = some (.int .i64 (y1 : Int)) ∧ v1.cell? ⟨w4.heap.size + 1, 0, none⟩ = some (.int .u32 (y0 : Int)) ∧ v1.cell? ⟨w4.heap.size + 1, 1, none⟩ = some (.int .i64 (y1 : Int)) ∧ v1.cell? ⟨w2.heap.size, 2, none⟩ = some (.bool false) := ⟨cellB g1 k.1, cellB g1 k.2.1, cellB g1 k.2.2.1, cellB g1 k.2.2.2.1, cellB g1 k.2.2.2.2.1, cellB g1 k.2.2.2.2.2.1, cellB g1 k.2.2.2.2.2.2⟩; have R := hR5.below g1; have F := hF5.below g1) | (go_at_call 60; refine (rbput_any A c l r n _ w.heap.size (by omega) hA (by exact hr.below b) (by exact b.size) hx).mono ?_; rintro e v2 ⟨u2, rfl, o2, g2⟩; obtain ⟨A3, c3, rfl, hc3, _, _⟩ := ownShape o2; have b := b.trans (g2.mono b.size); have k : v2.cell? ⟨w.heap.size, 0, none⟩ = some (.int .u32 (r : Int)) ∧ v2.cell? ⟨w.heap.size, 1, none⟩ = some (.int .i64 n) ∧ v2.cell? ⟨w4.heap.size, 0, none⟩ = some (.int .u32 (y0 : Int)) ∧ v2.cell? ⟨w4.heap.size, 1, none⟩ = some (.int .i64 (y1 : Int)) ∧ v2.cell? ⟨w4.heap.size + 1, 0, none⟩ = some (.int .u32 (y0 : Int)) ∧ v2.cell? ⟨w4.heap.size + 1, 1, none⟩ = some (.int .i64 (y1 : Int)) ∧ v2.cell? ⟨w2.heap.size, 2, none⟩ = some (.bool false) := ⟨cellB g2 k.1, cellB g2 k.2.1, cellB g2 k.2.2.1, cellB g2 k.2.2.2.1, cellB g2 k.2.2.2.2.1, cellB g2 k.2.2.2.2.2.1, cellB g2 k.2.2.2.2.2.2⟩; have R := R.below g2; have F := F.below g2) | (go_at_call 29; refine (same_any A2 A3 c2 c3 (B.put l r n) _ _ _ (by omega) (by exact (Rd.ofOwn o1).below g2) (by exact Rd.ofOwn o2) hc2 hc3).mono ?_; rintro e w' ⟨rfl, m1, rfl⟩) | (go_at_call 55; refine (ok_any w.heap.size w1.heap.size (ls, false) _ (by exact R.drewN _)).mono ?_; rintro e w' ⟨rfl, rfl⟩) | (go_at_call 53; refine (left_any w.heap.size w1.heap.size (ls, false) _ (by exact R.drewN _)).mono ?_; rintro e w' ⟨rfl, rfl⟩) | (go_at_call 54; refine (rleft_any w.heap.size w2.heap.size (ls, false) _ (by exact F.drewN _)).mono ?_; rintro e w' ⟨rfl, m2, rfl⟩))
        all_goals
          go_wp2_with fail
          go_meet
          exact ⟨rfl, belowDrewN b _⟩
      case rest =>
        obtain ⟨rfl, hbc⟩ := hcut
        go_wp2_with fail
        go_ret
        exact ⟨rfl, hbc⟩
    | true =>
      go_cut [4] (fun u wx => u = .bool true ∧ Below w.heap.size w wx)
      case first =>
        go_region_held3 (fun w' => w'.cell? ⟨w.heap.size, 0, none⟩ = some (.int .u32 (r : Int)) ∧ w'.cell? ⟨w.heap.size, 1, none⟩ = some (.int .i64 n) ∧ w'.cell? ⟨w4.heap.size, 0, none⟩ = some (.int .u32 (y0 : Int)) ∧ w'.cell? ⟨w4.heap.size, 1, none⟩ = some (.int .i64 (y1 : Int)) ∧ w'.cell? ⟨w4.heap.size + 1, 0, none⟩ = some (.int .u32 (y0 : Int)) ∧ w'.cell? ⟨w4.heap.size + 1, 1, none⟩ = some (.int .i64 (y1 : Int)) ∧ w'.cell? ⟨w2.heap.size, 2, none⟩ = some (.bool true)) (exact k) (first | (go_at_call 59; refine (bput_any A c l r n _ w.heap.size (by omega) hA (by exact hr5) (by exact hB5.size) hx).mono ?_; rintro e v1 ⟨u1, rfl, o1, g1⟩; have g1 := belowOfDrew g1; obtain ⟨A2, c2, rfl, hc2, _, _⟩ := ownShape o1; have b := hB5.trans (g1.mono hB5.size); have k : v1.cell? ⟨w.heap.size, 0, none⟩ = some (.int .u32 (r : Int)) ∧ v1.cell? ⟨w.heap.size, 1, none⟩ = some (.int .i64 n) ∧ v1.cell? ⟨w4.heap.size, 0, none⟩ = some (.int .u32 (y0 : Int)) ∧ v1.cell? ⟨w4.heap.size, 1, none⟩ = some (.int .i64 (y1 : Int)) ∧ v1.cell? ⟨w4.heap.size + 1, 0, none⟩ = some (.int .u32 (y0 : Int)) ∧ v1.cell? ⟨w4.heap.size + 1, 1, none⟩ = some (.int .i64 (y1 : Int)) ∧ v1.cell? ⟨w2.heap.size, 2, none⟩ = some (.bool true) := ⟨cellB g1 k.1, cellB g1 k.2.1, cellB g1 k.2.2.1, cellB g1 k.2.2.2.1, cellB g1 k.2.2.2.2.1, cellB g1 k.2.2.2.2.2.1, cellB g1 k.2.2.2.2.2.2⟩; have R := hR5.below g1; have F := hF5.below g1) | (go_at_call 60; refine (rbput_any A c l r n _ w.heap.size (by omega) hA (by exact hr.below b) (by exact b.size) hx).mono ?_; rintro e v2 ⟨u2, rfl, o2, g2⟩; obtain ⟨A3, c3, rfl, hc3, _, _⟩ := ownShape o2; have b := b.trans (g2.mono b.size); have k : v2.cell? ⟨w.heap.size, 0, none⟩ = some (.int .u32 (r : Int)) ∧ v2.cell? ⟨w.heap.size, 1, none⟩ = some (.int .i64 n) ∧ v2.cell? ⟨w4.heap.size, 0, none⟩ = some (.int .u32 (y0 : Int)) ∧ v2.cell? ⟨w4.heap.size, 1, none⟩ = some (.int .i64 (y1 : Int)) ∧ v2.cell? ⟨w4.heap.size + 1, 0, none⟩ = some (.int .u32 (y0 : Int)) ∧ v2.cell? ⟨w4.heap.size + 1, 1, none⟩ = some (.int .i64 (y1 : Int)) ∧ v2.cell? ⟨w2.heap.size, 2, none⟩ = some (.bool true) := ⟨cellB g2 k.1, cellB g2 k.2.1, cellB g2 k.2.2.1, cellB g2 k.2.2.2.1, cellB g2 k.2.2.2.2.1, cellB g2 k.2.2.2.2.2.1, cellB g2 k.2.2.2.2.2.2⟩; have R := R.below g2; have F := F.below g2) | (go_at_call 29; refine (same_any A2 A3 c2 c3 (B.put l r n) _ _ _ (by omega) (by exact (Rd.ofOwn o1).below g2) (by exact Rd.ofOwn o2) hc2 hc3).mono ?_; rintro e w' ⟨rfl, m1, rfl⟩) | (go_at_call 55; refine (ok_any w.heap.size w1.heap.size (ls, true) _ (by exact R.drewN _)).mono ?_; rintro e w' ⟨rfl, rfl⟩) | (go_at_call 53; refine (left_any w.heap.size w1.heap.size (ls, true) _ (by exact R.drewN _)).mono ?_; rintro e w' ⟨rfl, rfl⟩) | (go_at_call 54; refine (rleft_any w.heap.size w2.heap.size (ls, true) _ (by exact F.drewN _)).mono ?_; rintro e w' ⟨rfl, m2, rfl⟩))
        all_goals
          go_wp2_with fail
          go_meet
          exact ⟨rfl, belowDrewN b _⟩
      case rest =>
        obtain ⟨rfl, hbc⟩ := hcut
        go_wp2_with fail
        go_ret
        exact ⟨rfl, hbc⟩

theorem ballotBytes_walk (W : World) (v0 v1 : Value) (h0 : Arg W 27 v0) (h1 : Arg W 45 v1) :
    Calls Try.prog 16 #[v0, v1] W fun e W' => e = .returned (.bool true) ∧ Below W.heap.size W W' := by
  obtain ⟨r, n, rfl, hr, _⟩ := h0.bal
  obtain ⟨A, c, l, rfl, hc, hm, hA, hl⟩ := h1.bytes Try.underlying45
  exact bbytes r n A c l W hr hc hm hA hl
end Go.Proofs.Ytfpblaggnehnoaa
