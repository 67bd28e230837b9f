/- The walk of the law ValueBytes. (Printed by gen_vbytes.py.) -/
import Derived.Test.YtdoclbonbjkomaaDoorValPut
import Derived.Test.YtdoclbonbjkomaaDoorValRTake
import Derived.Test.YtdoclbonbjkomaaDoorValArg
import Derived.Test.YtdoclbonbjkomaaDoorEqv
namespace Go.Proofs.YtdoclbonbjkomaaDoor
open Go.RowKit
set_option linter.unusedSimpArgs false
set_option linter.unusedVariables false

section
variable (k : Int) (b : Nat) (t : ByteArray)
set_option maxHeartbeats 1600000 in
theorem vb_long (A : Option Addr) (c : Nat) (l : List UInt8) (w : World) (bb : b < 18446744073709551616) (hs : t.size ≤ 9223372036854775807) (hc : l.length ≤ c) (hm : c ≤ maxLen) (hA : A = none → l = [] ∧ c = 0) (hr : Rd w w.heap.size A (bc l)) (h : 1000 < (t.size : Int) ∨ 1000 < (l.length : Int)) :
    Calls Tryd.prog 6 #[.agg #[.int .i64 k, .int .u64 (b : Int), .string t], .slice A l.length c] w fun e w' => e = .returned (.bool true) ∧ Below w.heap.size w w' := by
  have g0 := ((Below.refl w.heap.size w).alloc (Nat.le_refl _) (.cells #[.int .i64 k, .int .u64 b, .string t] 27))
  have c1 := Lib.hid (cell3 w (.int .i64 k) (.int .u64 b) (.string t) 27)
  rcases (show (1000 < (t.size : Int)) ∨ (¬ 1000 < (t.size : Int) ∧ 1000 < (l.length : Int)) by omega) with h1 | ⟨h1, h2⟩
  all_goals
    clear h
    go_enter Tryd.func6, Tryd.ntmps6
    go_wp2_with fail
    refine (v_awake _).mono ?_
    rintro e w1 ⟨rfl, b1⟩
    obtain ⟨a1, a2, a3⟩ := c1.out
    have d3 := cellB b1 a3
    clear a1 a2 a3 c1
    go_wp2_with fail
    refine (v_awake _).mono ?_
    rintro e w2 ⟨rfl, b2⟩
    go_wp2_with fail
    go_ret
    have g1 := g0.trans (b1.mono g0.size)
    exact ⟨rfl, g1.trans (b2.mono g1.size)⟩
set_option maxRecDepth 20000 in
set_option maxHeartbeats 6400000 in
theorem vb_short (A : Option Addr) (c : Nat) (l : List UInt8) (w : World) (bb : b < 18446744073709551616) (hs : t.size ≤ 9223372036854775807) (hc : l.length ≤ c) (hm : c ≤ maxLen) (hA : A = none → l = [] ∧ c = 0) (hr : Rd w w.heap.size A (bc l)) (hT : Tabs w) (h1 : ¬ 1000 < (t.size : Int)) (h2 : ¬ 1000 < (l.length : Int)) :
    Calls Tryd.prog 6 #[.agg #[.int .i64 k, .int .u64 (b : Int), .string t], .slice A l.length c] w fun e w' => e = .returned (.bool true) ∧ Below w.heap.size w w' := by
  have g0 := ((Below.refl w.heap.size w).alloc (Nat.le_refl _) (.cells #[.int .i64 k, .int .u64 b, .string t] 27))
  have c1 := Lib.hid (cell3 w (.int .i64 k) (.int .u64 b) (.string t) 27)
  have hTA := TabsAt.of hT (Nat.le_refl _)
  clear hT
  go_enter Tryd.func6, Tryd.ntmps6
  go_wp2_with fail
  refine (v_awake _).mono ?_
  rintro e w1 ⟨rfl, b1⟩
  obtain ⟨a1, a2, a3⟩ := c1.out
  have p0 := cellB b1 a1
  have p1 := cellB b1 a2
  have p2 := cellB b1 a3
  have hB1 : Below w.heap.size w w1 := g0.trans (b1.mono g0.size)
  have hs1 : w.heap.size + 1 ≤ w1.heap.size := by have := b1.size; simpa using this
  clear b1 a1 a2 a3 c1 g0
  go_wp2_with fail
  refine (new_any A c l w1 w.heap.size hc hm hA (hr.below hB1) hB1.size).mono ?_
  rintro e w2 ⟨rfl, hR2, hb2⟩
  have p0 := cellA (.cells #[.slice A l.length c, .int .i64 0, .bool false] 37) (cellB hb2 p0)
  have p1 := cellA (.cells #[.slice A l.length c, .int .i64 0, .bool false] 37) (cellB hb2 p1)
  have p2 := cellA (.cells #[.slice A l.length c, .int .i64 0, .bool false] 37) (cellB hb2 p2)
  have hB2 := hB1.trans (hb2.mono hB1.size)
  have hlt2 : w1.heap.size < w2.heap.size := by obtain ⟨_, _, hq, _⟩ := hR2; exact ltAt hq
  have hF2 : RefAt (w2.alloc (.cells #[.slice A l.length c, .int .i64 0, .bool false] 37)) w.heap.size w2.heap.size (l, false) :=
    ⟨A, c, l, 0, heap_alloc_new w2 _, Nat.zero_le _, by omega, hc, (hr.below hB2).alloc (by omega) _, by omega, by simp⟩
  have hR2 := hR2.alloc (.cells #[.slice A l.length c, .int .i64 0, .bool false] 37)
  have hB2 := hB2.alloc hB2.size (.cells #[.slice A l.length c, .int .i64 0, .bool false] 37)
  clear hb2
  go_wp2_with fail
  refine (vtake_any w.heap.size w1.heap.size _ (l, false) hR2 (hTA.below hB2 (Nat.le_refl _))).mono ?_
  rintro e w3 ⟨rfl, hR3, g3⟩
  have p0 := g3.cell p0 (by simp; omega)
  have p1 := g3.cell p1 (by simp; omega)
  have p2 := g3.cell p2 (by simp; omega)
  have hF3 := hF2.other g3 (by omega) (by omega)
  have hB3 := hB2.grown g3 hB2.size (fun q hq => by injection hq with hq; omega)
  have hs3 : w2.heap.size + 1 ≤ w3.heap.size := by have := g3.size; simpa using this
  clear g3 hF2 hR2 hB2
  go_wp2_with fail
  refine (rvtake_any w.heap.size w2.heap.size _ (l, false) hF3).mono ?_
  rintro e w4 ⟨rfl, hF4, g4⟩
  have p0 := g4.cell p0 (by simp; omega)
  have p1 := g4.cell p1 (by simp; omega)
  have p2 := g4.cell p2 (by simp; omega)
  have hR4 := hR3.other g4 (by omega) (by omega)
  have hB4 := hB3.grown g4 hB3.size (fun q hq => by injection hq with hq; omega)
  have hs4 := g4.size
  clear g4 hF3 hR3 hB3
  generalize V.take (l, false) = T at hR4 hF4 ⊢
  obtain ⟨⟨y0, y1, y2⟩, ls, f⟩ := T
  simp only at hR4 hF4 ⊢
  unfold V.val
  go_upto_region 5 with fail
  obtain ⟨wr, hwr⟩ : ∃ wr, wr = (w4.alloc (.cells #[.int .i64 (y0 : Int), .int .u64 (y1 : Int), .string ⟨y2.toArray⟩] 27)).alloc (.cells #[.int .i64 (y0 : Int), .int .u64 (y1 : Int), .string ⟨y2.toArray⟩] 27) := ⟨_, rfl⟩
  rw [← hwr]
  have k0 : wr.cell? ⟨w.heap.size, 0, none⟩ = some (.int .i64 k) ∧ wr.cell? ⟨w.heap.size, 1, none⟩ = some (.int .u64 (b : Int)) ∧ wr.cell? ⟨w.heap.size, 2, none⟩ = some (.string t) ∧ wr.cell? ⟨w4.heap.size, 0, none⟩ = some (.int .i64 (y0 : Int)) ∧ wr.cell? ⟨w4.heap.size, 1, none⟩ = some (.int .u64 (y1 : Int)) ∧ wr.cell? ⟨w4.heap.size, 2, none⟩ = some (.string ⟨y2.toArray⟩) ∧ wr.cell? ⟨w4.heap.size + 1, 0, none⟩ = some (.int .i64 (y0 : Int)) ∧ wr.cell? ⟨w4.heap.size + 1, 1, none⟩ = some (.int .u64 (y1 : Int)) ∧ wr.cell? ⟨w4.heap.size + 1, 2, none⟩ = some (.string ⟨y2.toArray⟩) ∧ wr.cell? ⟨w2.heap.size, 2, none⟩ = some (.bool f) := by
    rw [hwr]
    exact ⟨cellA _ (cellA _ p0), cellA _ (cellA _ p1), cellA _ (cellA _ p2), cellA _ (by simp), cellA _ (by simp), cellA _ (by simp), by simp, by simp, by simp, cellA _ (cellA _ hF4.cell)⟩
  have hB5 : Below w.heap.size w wr := by rw [hwr]; exact (hB4.alloc hB4.size _).alloc (by have := hB4.size; simp; omega) _
  have hR5 : RdrAt wr w.heap.size w1.heap.size (ls, f) := by rw [hwr]; exact (hR4.alloc _).alloc _
  have hF5 : RefAt wr w.heap.size w2.heap.size (ls, f) := by rw [hwr]; exact (hF4.alloc _).alloc _
  have hr5 := hr.below hB5
  have hput : (V.put l k b t.data.toList).length ≤ 1099511627776 := by
    have := V.put_len l k b t.data.toList; omega
  have heq : ∀ z, (binOp .eql 27 (.agg #[.int .i64 (y0 : Int), .int .u64 (y1 : Int), .string ⟨y2.toArray⟩]) (.agg #[.int .i64 (y0 : Int), .int .u64 (y1 : Int), .string ⟨y2.toArray⟩])).run Tryd.prog z = .ok (.bool true) z := fun z => by rw [V.run_eqv]; simp
  clear hwr p0 p1 p2 hB4 hR4 hF4
  cases f with
  | false =>
    go_cut [4] (fun u wx => u = .bool true ∧ Below w.heap.size w wx)
    case first =>
      go_region_held3 (fun w' => w'.cell? ⟨w.heap.size, 0, none⟩ = some (.int .i64 k) ∧ w'.cell? ⟨w.heap.size, 1, none⟩ = some (.int .u64 (b : Int)) ∧ w'.cell? ⟨w.heap.size, 2, none⟩ = some (.string t) ∧ w'.cell? ⟨w4.heap.size, 0, none⟩ = some (.int .i64 (y0 : Int)) ∧ w'.cell? ⟨w4.heap.size, 1, none⟩ = some (.int .u64 (y1 : Int)) ∧ w'.cell? ⟨w4.heap.size, 2, none⟩ = some (.string ⟨y2.toArray⟩) ∧ w'.cell? ⟨w4.heap.size + 1, 0, none⟩ = some (.int .i64 (y0 : Int)) ∧ w'.cell? ⟨w4.heap.size + 1, 1, none⟩ = some (.int .u64 (y1 : Int)) ∧ w'.cell? ⟨w4.heap.size + 1, 2, none⟩ = some (.string ⟨y2.toArray⟩) ∧ w'.cell? ⟨w2.heap.size, 2, none⟩ = some (.bool false)) (exact k0) (first | (go_at_call 18; refine (vput_any A c l b t _ w.heap.size k bb hs (by omega) hA (by exact hr5) (by exact hB5.size) (by exact (hTA.below hB5 (Nat.le_refl _)).tabs)).mono ?_; rintro e v1 ⟨u1, rfl, o1, g1⟩; have g1 := belowOfDrew g1; obtain ⟨A2, c2, rfl, hc2, _, _⟩ := ownShape o1; have bz := hB5.trans (g1.mono hB5.size); have k0 : v1.cell? ⟨w.heap.size, 0, none⟩ = some (.int .i64 k) ∧ v1.cell? ⟨w.heap.size, 1, none⟩ = some (.int .u64 (b : Int)) ∧ v1.cell? ⟨w.heap.size, 2, none⟩ = some (.string t) ∧ v1.cell? ⟨w4.heap.size, 0, none⟩ = some (.int .i64 (y0 : Int)) ∧ v1.cell? ⟨w4.heap.size, 1, none⟩ = some (.int .u64 (y1 : Int)) ∧ v1.cell? ⟨w4.heap.size, 2, none⟩ = some (.string ⟨y2.toArray⟩) ∧ v1.cell? ⟨w4.heap.size + 1, 0, none⟩ = some (.int .i64 (y0 : Int)) ∧ v1.cell? ⟨w4.heap.size + 1, 1, none⟩ = some (.int .u64 (y1 : Int)) ∧ v1.cell? ⟨w4.heap.size + 1, 2, none⟩ = some (.string ⟨y2.toArray⟩) ∧ v1.cell? ⟨w2.heap.size, 2, none⟩ = some (.bool false) := ⟨cellB g1 k0.1, cellB g1 k0.2.1, cellB g1 k0.2.2.1, cellB g1 k0.2.2.2.1, cellB g1 k0.2.2.2.2.1, cellB g1 k0.2.2.2.2.2.1, cellB g1 k0.2.2.2.2.2.2.1, cellB g1 k0.2.2.2.2.2.2.2.1, cellB g1 k0.2.2.2.2.2.2.2.2.1, cellB g1 k0.2.2.2.2.2.2.2.2.2⟩; have R := hR5.below g1; have F := hF5.below g1) | (go_at_call 19; refine (rvput_any A c l b t _ w.heap.size k bb hs (by omega) hA (by exact hr.below bz) (by exact bz.size)).mono ?_; rintro e v2 ⟨u2, rfl, o2, g2⟩; obtain ⟨A3, c3, rfl, hc3, _, _⟩ := ownShape o2; have bz := bz.trans (g2.mono bz.size); have k0 : v2.cell? ⟨w.heap.size, 0, none⟩ = some (.int .i64 k) ∧ v2.cell? ⟨w.heap.size, 1, none⟩ = some (.int .u64 (b : Int)) ∧ v2.cell? ⟨w.heap.size, 2, none⟩ = some (.string t) ∧ v2.cell? ⟨w4.heap.size, 0, none⟩ = some (.int .i64 (y0 : Int)) ∧ v2.cell? ⟨w4.heap.size, 1, none⟩ = some (.int .u64 (y1 : Int)) ∧ v2.cell? ⟨w4.heap.size, 2, none⟩ = some (.string ⟨y2.toArray⟩) ∧ v2.cell? ⟨w4.heap.size + 1, 0, none⟩ = some (.int .i64 (y0 : Int)) ∧ v2.cell? ⟨w4.heap.size + 1, 1, none⟩ = some (.int .u64 (y1 : Int)) ∧ v2.cell? ⟨w4.heap.size + 1, 2, none⟩ = some (.string ⟨y2.toArray⟩) ∧ v2.cell? ⟨w2.heap.size, 2, none⟩ = some (.bool false) := ⟨cellB g2 k0.1, cellB g2 k0.2.1, cellB g2 k0.2.2.1, cellB g2 k0.2.2.2.1, cellB g2 k0.2.2.2.2.1, cellB g2 k0.2.2.2.2.2.1, cellB g2 k0.2.2.2.2.2.2.1, cellB g2 k0.2.2.2.2.2.2.2.1, cellB g2 k0.2.2.2.2.2.2.2.2.1, cellB g2 k0.2.2.2.2.2.2.2.2.2⟩; have R := R.below g2; have F := F.below g2) | (go_at_call 17; refine (same_any A2 A3 c2 c3 (V.put l k b t.data.toList) _ _ _ (by omega) (by exact (Rd.ofOwn o1).below g2) (by exact Rd.ofOwn o2) hc2 hc3).mono ?_; rintro e w' ⟨rfl, m1, rfl⟩) | (go_at_call 20; refine (ok_any w.heap.size w1.heap.size (ls, false) _ (by exact R.drewN _)).mono ?_; rintro e w' ⟨rfl, rfl⟩) | (go_at_call 21; refine (left_any w.heap.size w1.heap.size (ls, false) _ (by exact R.drewN _)).mono ?_; rintro e w' ⟨rfl, rfl⟩) | (go_at_call 22; refine (rleft_any w.heap.size w2.heap.size (ls, false) _ (by exact F.drewN _)).mono ?_; rintro e w' ⟨rfl, m2, rfl⟩))
      all_goals
        go_wp2_with fail
        go_meet
        exact ⟨rfl, belowDrewN bz _⟩
    case rest =>
      obtain ⟨rfl, hbc⟩ := hcut
      go_wp2_with fail
      go_ret
      exact ⟨rfl, hbc⟩
  | true =>
    go_cut [4] (fun u wx => u = .bool true ∧ Below w.heap.size w wx)
    case first =>
      go_region_held3 (fun w' => w'.cell? ⟨w.heap.size, 0, none⟩ = some (.int .i64 k) ∧ w'.cell? ⟨w.heap.size, 1, none⟩ = some (.int .u64 (b : Int)) ∧ w'.cell? ⟨w.heap.size, 2, none⟩ = some (.string t) ∧ w'.cell? ⟨w4.heap.size, 0, none⟩ = some (.int .i64 (y0 : Int)) ∧ w'.cell? ⟨w4.heap.size, 1, none⟩ = some (.int .u64 (y1 : Int)) ∧ w'.cell? ⟨w4.heap.size, 2, none⟩ = some (.string ⟨y2.toArray⟩) ∧ w'.cell? ⟨w4.heap.size + 1, 0, none⟩ = some (.int .i64 (y0 : Int)) ∧ w'.cell? ⟨w4.heap.size + 1, 1, none⟩ = some (.int .u64 (y1 : Int)) ∧ w'.cell? ⟨w4.heap.size + 1, 2, none⟩ = some (.string ⟨y2.toArray⟩) ∧ w'.cell? ⟨w2.heap.size, 2, none⟩ = some (.bool true)) (exact k0) (first | (go_at_call 18; refine (vput_any A c l b t _ w.heap.size k bb hs (by omega) hA (by exact hr5) (by exact hB5.size) (by exact (hTA.below hB5 (Nat.le_refl _)).tabs)).mono ?_; rintro e v1 ⟨u1, rfl, o1, g1⟩; have g1 := belowOfDrew g1; obtain ⟨A2, c2, rfl, hc2, _, _⟩ := ownShape o1; have bz := hB5.trans (g1.mono hB5.size); have k0 : v1.cell? ⟨w.heap.size, 0, none⟩ = some (.int .i64 k) ∧ v1.cell? ⟨w.heap.size, 1, none⟩ = some (.int .u64 (b : Int)) ∧ v1.cell? ⟨w.heap.size, 2, none⟩ = some (.string t) ∧ v1.cell? ⟨w4.heap.size, 0, none⟩ = some (.int .i64 (y0 : Int)) ∧ v1.cell? ⟨w4.heap.size, 1, none⟩ = some (.int .u64 (y1 : Int)) ∧ v1.cell? ⟨w4.heap.size, 2, none⟩ = some (.string ⟨y2.toArray⟩) ∧ v1.cell? ⟨w4.heap.size + 1, 0, none⟩ = some (.int .i64 (y0 : Int)) ∧ v1.cell? ⟨w4.heap.size + 1, 1, none⟩ = some (.int .u64 (y1 : Int)) ∧ v1.cell? ⟨w4.heap.size + 1, 2, none⟩ = some (.string ⟨y2.toArray⟩) ∧ v1.cell? ⟨w2.heap.size, 2, none⟩ = some (.bool true) := ⟨cellB g1 k0.1, cellB g1 k0.2.1, cellB g1 k0.2.2.1, cellB g1 k0.2.2.2.1, cellB g1 k0.2.2.2.2.1, cellB g1 k0.2.2.2.2.2.1, cellB g1 k0.2.2.2.2.2.2.1, cellB g1 k0.2.2.2.2.2.2.2.1, cellB g1 k0.2.2.2.2.2.2.2.2.1, cellB g1 k0.2.2.2.2.2.2.2.2.2⟩; have R := hR5.below g1; have F := hF5.below g1) | (go_at_call 19; refine (rvput_any A c l b t _ w.heap.size k bb hs (by omega) hA (by exact hr.below bz) (by exact bz.size)).mono ?_; rintro e v2 ⟨u2, rfl, o2, g2⟩; obtain ⟨A3, c3, rfl, hc3, _, _⟩ := ownShape o2; have bz := bz.trans (g2.mono bz.size); have k0 : v2.cell? ⟨w.heap.size, 0, none⟩ = some (.int .i64 k) ∧ v2.cell? ⟨w.heap.size, 1, none⟩ = some (.int .u64 (b : Int)) ∧ v2.cell? ⟨w.heap.size, 2, none⟩ = some (.string t) ∧ v2.cell? ⟨w4.heap.size, 0, none⟩ = some (.int .i64 (y0 : Int)) ∧ v2.cell? ⟨w4.heap.size, 1, none⟩ = some (.int .u64 (y1 : Int)) ∧ v2.cell? ⟨w4.heap.size, 2, none⟩ = some (.string ⟨y2.toArray⟩) ∧ v2.cell? ⟨w4.heap.size + 1, 0, none⟩ = some (.int .i64 (y0 : Int)) ∧ v2.cell? ⟨w4.heap.size + 1, 1, none⟩ = some (.int .u64 (y1 : Int)) ∧ v2.cell? ⟨w4.heap.size + 1, 2, none⟩ = some (.string ⟨y2.toArray⟩) ∧ v2.cell? ⟨w2.heap.size, 2, none⟩ = some (.bool true) := ⟨cellB g2 k0.1, cellB g2 k0.2.1, cellB g2 k0.2.2.1, cellB g2 k0.2.2.2.1, cellB g2 k0.2.2.2.2.1, cellB g2 k0.2.2.2.2.2.1, cellB g2 k0.2.2.2.2.2.2.1, cellB g2 k0.2.2.2.2.2.2.2.1, cellB g2 k0.2.2.2.2.2.2.2.2.1, cellB g2 k0.2.2.2.2.2.2.2.2.2⟩; have R := R.below g2; have F := F.below g2) | (go_at_call 17; refine (same_any A2 A3 c2 c3 (V.put l k b t.data.toList) _ _ _ (by omega) (by exact (Rd.ofOwn o1).below g2) (by exact Rd.ofOwn o2) hc2 hc3).mono ?_; rintro e w' ⟨rfl, m1, rfl⟩) | (go_at_call 20; refine (ok_any w.heap.size w1.heap.size (ls, true) _ (by exact R.drewN _)).mono ?_; rintro e w' ⟨rfl, rfl⟩) | (go_at_call 21; refine (left_any w.heap.size w1.heap.size (ls, true) _ (by exact R.drewN _)).mono ?_; rintro e w' ⟨rfl, rfl⟩) | (go_at_call 22; refine (rleft_any w.heap.size w2.heap.size (ls, true) _ (by exact F.drewN _)).mono ?_; rintro e w' ⟨rfl, m2, rfl⟩))
      all_goals
        go_wp2_with fail
        go_meet
        exact ⟨rfl, belowDrewN bz _⟩
    case rest =>
      obtain ⟨rfl, hbc⟩ := hcut
      go_wp2_with fail
      go_ret
      exact ⟨rfl, hbc⟩
end
theorem valueBytes_walk (W : World) (hT : Tabs W) (v0 v1 : Value) (h0 : Arg W 27 v0) (h1 : Arg W 32 v1) :
    Calls Tryd.prog 6 #[v0, v1] W fun e W' => e = .returned (.bool true) ∧ Below W.heap.size W W' := by
  obtain ⟨k, b, t, rfl, _, _, hb, hs⟩ := h0.val
  obtain ⟨A, c, l, rfl, hc, hm, hA, hl⟩ := h1.bytes Tryd.underlying32
  by_cases h : 1000 < (t.size : Int) ∨ 1000 < (l.length : Int)
  · exact vb_long k b t A c l W hb hs hc hm hA hl h
  · exact vb_short k b t A c l W hb hs hc hm hA hl hT (by omega) (by omega)
end Go.Proofs.YtdoclbonbjkomaaDoor
