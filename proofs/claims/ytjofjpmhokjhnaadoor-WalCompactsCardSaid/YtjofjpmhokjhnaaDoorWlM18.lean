/- message.Formed. Conditions: what lies, lies below. (Printed by gen_msg.py.) -/
import Derived.Test.YtjofjpmhokjhnaaDoorWlM17
import Derived.Test.YtjofjpmhokjhnaaDoorWlM13
import Derived.Deep.QuietTactic
namespace Go.Proofs.YtjofjpmhokjhnaaDoor
set_option maxRecDepth 20000
open Go.RowKit T
set_option linter.unusedSimpArgs false
set_option linter.unusedVariables false

set_option maxHeartbeats 6400000 in
theorem cf0 (s q : Int) (rs : List Rd1) (ws : List Wr1) (A1 : Option Addr) (c1 : Nat) (A2 : Option Addr) (c2 : Nat) (i j g : Int) (st : Nat) (y : Bool) (w : World) (B : Nat) (hB : B ≤ w.heap.size) (ok : TxOk w B rs ws A1 c1 A2 c2) (hT : Tabs w) :
    Calls Tryd.prog 45 #[.agg #[.int .i64 0, .int .i64 s, .int .i64 q, .slice A1 rs.length c1, .slice A2 ws.length c2, .int .i64 i, .int .i64 j, .int .i64 g, .int .u64 (st : Int), .bool y]] w fun e w' => e = .returned (.bool (T.cformed 0 s q rs ws i j g st y)) ∧ Below w.heap.size w w' := by
  obtain ⟨p, hp⟩ : ∃ p : Bool, p = (T.cformed 0 s q rs ws i j g st y) := ⟨_, rfl⟩
  have HP := Lib.hid hp
  rw [← hp]
  clear hp
  obtain ⟨w0, hw0⟩ : ∃ w0, w0 = w.alloc (.cells #[.int .i64 0, .int .i64 s, .int .i64 q, .slice A1 rs.length c1, .slice A2 ws.length c2, .int .i64 i, .int .i64 j, .int .i64 g, .int .u64 (st : Int), .bool y] 33) := ⟨_, rfl⟩
  have g0 : Below w.heap.size w w0 := by rw [hw0]; exact (Below.refl _ _).alloc (Nat.le_refl _) _
  obtain ⟨a0, a1, a2, a3, a4, a5, a6, a7, a8, a9⟩ : w0.cell? ⟨w.heap.size, 0, none⟩ = some (.int .i64 0) ∧ w0.cell? ⟨w.heap.size, 1, none⟩ = some (.int .i64 s) ∧ w0.cell? ⟨w.heap.size, 2, none⟩ = some (.int .i64 q) ∧ w0.cell? ⟨w.heap.size, 3, none⟩ = some (.slice A1 rs.length c1) ∧ w0.cell? ⟨w.heap.size, 4, none⟩ = some (.slice A2 ws.length c2) ∧ w0.cell? ⟨w.heap.size, 5, none⟩ = some (.int .i64 i) ∧ w0.cell? ⟨w.heap.size, 6, none⟩ = some (.int .i64 j) ∧ w0.cell? ⟨w.heap.size, 7, none⟩ = some (.int .i64 g) ∧ w0.cell? ⟨w.heap.size, 8, none⟩ = some (.int .u64 (st : Int)) ∧ w0.cell? ⟨w.heap.size, 9, none⟩ = some (.bool y) := by
    rw [hw0]; exact ⟨by simp, by simp, by simp, by simp, by simp, by simp, by simp, by simp, by simp, by simp⟩
  have gB := g0.size
  have HO := Lib.hid (ok.below g0 hB)
  have HT := Lib.hid (hT.below g0)
  clear hT
  clear ok
  have H1 := Lib.hid (csame_any 0 s q rs ws A1 c1 A2 c2 i j g st y 0 0 0 [] [] none 0 none 0 0 0 0 0 false w0 B (by omega) HO.out TxOk.zero)
  have HQ : Hid (decide ((0 : Int) = 0 ∧ (i = 0 ∧ j = 0) ∧ g = 0 ∧ st = 0 ∧ y = false ∧ s = 0 ∧ q = 0 ∧ rs = [] ∧ ws = []) = p) := by
    show _ = _
    rw [HP.out]; unfold T.cformed; rw [if_pos rfl]
    apply decide_eq_decide.2
    exact ⟨fun ⟨_, ⟨h1, h2⟩, h3, h4, h5, h6, h7, h8, h9⟩ => ⟨h6, h7, h8, h9, h1, h2, h3, h4, h5⟩, fun ⟨h6, h7, h8, h9, h1, h2, h3, h4, h5⟩ => ⟨rfl, ⟨h1, h2⟩, h3, h4, h5, h6, h7, h8, h9⟩⟩
  clear HP
  generalize decide ((0 : Int) = 0 ∧ (i = 0 ∧ j = 0) ∧ g = 0 ∧ st = 0 ∧ y = false ∧ s = 0 ∧ q = 0 ∧ rs = [] ∧ ws = []) = r at *
  simp only [List.length_nil] at H1
  generalize rs.length = n1 at *
  generalize ws.length = n2 at *
  go_enter Tryd.func45, Tryd.ntmps45
  go_upto_region 1 with fail
  rw [← hw0]
  clear hw0
  go_wp2_with fail
  refine H1.out.mono ?_
  rintro e w1 ⟨rfl, b1⟩
  clear H1
  go_wp2_with fail
  go_ret
  exact ⟨ret_bool HQ.out, g0.trans (b1.mono gB)⟩
set_option maxHeartbeats 6400000 in
theorem cf1 (s q : Int) (rs : List Rd1) (ws : List Wr1) (A1 : Option Addr) (c1 : Nat) (A2 : Option Addr) (c2 : Nat) (i j g : Int) (st : Nat) (y : Bool) (w : World) (B : Nat) (hB : B ≤ w.heap.size) (ok : TxOk w B rs ws A1 c1 A2 c2) (hT : Tabs w) :
    Calls Tryd.prog 45 #[.agg #[.int .i64 1, .int .i64 s, .int .i64 q, .slice A1 rs.length c1, .slice A2 ws.length c2, .int .i64 i, .int .i64 j, .int .i64 g, .int .u64 (st : Int), .bool y]] w fun e w' => e = .returned (.bool (T.cformed 1 s q rs ws i j g st y)) ∧ Below w.heap.size w w' := by
  obtain ⟨p, hp⟩ : ∃ p : Bool, p = (T.cformed 1 s q rs ws i j g st y) := ⟨_, rfl⟩
  have HP := Lib.hid hp
  rw [← hp]
  clear hp
  obtain ⟨w0, hw0⟩ : ∃ w0, w0 = w.alloc (.cells #[.int .i64 1, .int .i64 s, .int .i64 q, .slice A1 rs.length c1, .slice A2 ws.length c2, .int .i64 i, .int .i64 j, .int .i64 g, .int .u64 (st : Int), .bool y] 33) := ⟨_, rfl⟩
  have g0 : Below w.heap.size w w0 := by rw [hw0]; exact (Below.refl _ _).alloc (Nat.le_refl _) _
  obtain ⟨a0, a1, a2, a3, a4, a5, a6, a7, a8, a9⟩ : w0.cell? ⟨w.heap.size, 0, none⟩ = some (.int .i64 1) ∧ w0.cell? ⟨w.heap.size, 1, none⟩ = some (.int .i64 s) ∧ w0.cell? ⟨w.heap.size, 2, none⟩ = some (.int .i64 q) ∧ w0.cell? ⟨w.heap.size, 3, none⟩ = some (.slice A1 rs.length c1) ∧ w0.cell? ⟨w.heap.size, 4, none⟩ = some (.slice A2 ws.length c2) ∧ w0.cell? ⟨w.heap.size, 5, none⟩ = some (.int .i64 i) ∧ w0.cell? ⟨w.heap.size, 6, none⟩ = some (.int .i64 j) ∧ w0.cell? ⟨w.heap.size, 7, none⟩ = some (.int .i64 g) ∧ w0.cell? ⟨w.heap.size, 8, none⟩ = some (.int .u64 (st : Int)) ∧ w0.cell? ⟨w.heap.size, 9, none⟩ = some (.bool y) := by
    rw [hw0]; exact ⟨by simp, by simp, by simp, by simp, by simp, by simp, by simp, by simp, by simp, by simp⟩
  have gB := g0.size
  have HO := Lib.hid (ok.below g0 hB)
  have HT := Lib.hid (hT.below g0)
  clear hT
  clear ok
  have H0 := Lib.hid (tformed_any s q rs ws A1 c1 A2 c2 w0 B (by omega) HO.out HT.out)
  have H1 := Lib.hid (fun z (hz : Below w0.heap.size w0 z) => csame_any 1 s q rs ws A1 c1 A2 c2 i j g st y 1 s q rs ws A1 c1 A2 c2 0 0 0 0 false z B (by have := hz.size; omega) (HO.out.below hz (by omega)) (HO.out.below hz (by omega)))
  have HQ : Hid (T.formed s q rs ws = false → false = p) := by show _ → _; intro h; rw [HP.out]; unfold T.cformed; rw [if_neg (by omega), if_pos rfl, h]; rfl
  have HQ2 : Hid (T.formed s q rs ws = true → decide ((1 : Int) = 1 ∧ (i = 0 ∧ j = 0) ∧ g = 0 ∧ st = 0 ∧ y = false ∧ s = s ∧ q = q ∧ rs = rs ∧ ws = ws) = p) := by
    show _ → _
    intro h
    rw [HP.out]; unfold T.cformed; rw [if_neg (by omega), if_pos rfl, h, Bool.true_and]
    apply decide_eq_decide.2
    exact ⟨fun ⟨_, ⟨h1, h2⟩, h3, h4, h5, _⟩ => ⟨h1, h2, h3, h4, h5⟩, fun ⟨h1, h2, h3, h4, h5⟩ => ⟨rfl, ⟨h1, h2⟩, h3, h4, h5, rfl, rfl, rfl, rfl⟩⟩
  clear HP
  generalize T.formed s q rs ws = r0 at *
  generalize decide ((1 : Int) = 1 ∧ (i = 0 ∧ j = 0) ∧ g = 0 ∧ st = 0 ∧ y = false ∧ s = s ∧ q = q ∧ rs = rs ∧ ws = ws) = r1 at *
  generalize rs.length = n1 at *
  generalize ws.length = n2 at *
  go_enter Tryd.func45, Tryd.ntmps45
  go_upto_region 1 with fail
  rw [← hw0]
  clear hw0
  go_wp2_with fail
  refine H0.out.mono ?_
  rintro e w1 ⟨rfl, b1⟩
  clear H0
  have a0 := cellB b1 a0
  have a1 := cellB b1 a1
  have a2 := cellB b1 a2
  have a3 := cellB b1 a3
  have a4 := cellB b1 a4
  have a5 := cellB b1 a5
  have a6 := cellB b1 a6
  have a7 := cellB b1 a7
  have a8 := cellB b1 a8
  have a9 := cellB b1 a9
  have e1 := g0.trans (b1.mono gB)
  cases r0 with
  | false =>
    have HR := Lib.hid (HQ.out rfl)
    clear HQ HQ2
    go_wp2_with fail
    go_ret
    exact ⟨ret_bool HR.out, e1⟩
  | true =>
    have HR := Lib.hid (HQ2.out rfl)
    clear HQ HQ2
    go_wp2_with fail
    refine (H1.out w1 b1).mono ?_
    rintro e w2 ⟨rfl, b2⟩
    clear H1
    go_wp2_with fail
    go_ret
    exact ⟨ret_bool HR.out, e1.trans (b2.mono (by have := b1.size; omega))⟩
set_option maxHeartbeats 6400000 in
theorem cf2 (s q : Int) (rs : List Rd1) (ws : List Wr1) (A1 : Option Addr) (c1 : Nat) (A2 : Option Addr) (c2 : Nat) (i j g : Int) (st : Nat) (y : Bool) (w : World) (B : Nat) (hB : B ≤ w.heap.size) (ok : TxOk w B rs ws A1 c1 A2 c2) (hT : Tabs w) :
    Calls Tryd.prog 45 #[.agg #[.int .i64 2, .int .i64 s, .int .i64 q, .slice A1 rs.length c1, .slice A2 ws.length c2, .int .i64 i, .int .i64 j, .int .i64 g, .int .u64 (st : Int), .bool y]] w fun e w' => e = .returned (.bool (T.cformed 2 s q rs ws i j g st y)) ∧ Below w.heap.size w w' := by
  obtain ⟨p, hp⟩ : ∃ p : Bool, p = (T.cformed 2 s q rs ws i j g st y) := ⟨_, rfl⟩
  have HP := Lib.hid hp
  rw [← hp]
  clear hp
  obtain ⟨w0, hw0⟩ : ∃ w0, w0 = w.alloc (.cells #[.int .i64 2, .int .i64 s, .int .i64 q, .slice A1 rs.length c1, .slice A2 ws.length c2, .int .i64 i, .int .i64 j, .int .i64 g, .int .u64 (st : Int), .bool y] 33) := ⟨_, rfl⟩
  have g0 : Below w.heap.size w w0 := by rw [hw0]; exact (Below.refl _ _).alloc (Nat.le_refl _) _
  obtain ⟨a0, a1, a2, a3, a4, a5, a6, a7, a8, a9⟩ : w0.cell? ⟨w.heap.size, 0, none⟩ = some (.int .i64 2) ∧ w0.cell? ⟨w.heap.size, 1, none⟩ = some (.int .i64 s) ∧ w0.cell? ⟨w.heap.size, 2, none⟩ = some (.int .i64 q) ∧ w0.cell? ⟨w.heap.size, 3, none⟩ = some (.slice A1 rs.length c1) ∧ w0.cell? ⟨w.heap.size, 4, none⟩ = some (.slice A2 ws.length c2) ∧ w0.cell? ⟨w.heap.size, 5, none⟩ = some (.int .i64 i) ∧ w0.cell? ⟨w.heap.size, 6, none⟩ = some (.int .i64 j) ∧ w0.cell? ⟨w.heap.size, 7, none⟩ = some (.int .i64 g) ∧ w0.cell? ⟨w.heap.size, 8, none⟩ = some (.int .u64 (st : Int)) ∧ w0.cell? ⟨w.heap.size, 9, none⟩ = some (.bool y) := by
    rw [hw0]; exact ⟨by simp, by simp, by simp, by simp, by simp, by simp, by simp, by simp, by simp, by simp⟩
  have gB := g0.size
  have HO := Lib.hid (ok.below g0 hB)
  have HT := Lib.hid (hT.below g0)
  clear hT
  clear ok
  have H0 := Lib.hid (tid_any i j w0)
  have H1 := Lib.hid (fun z (hz : Below w0.heap.size w0 z) => csame_any 2 s q rs ws A1 c1 A2 c2 i j g st y 2 0 0 [] [] none 0 none 0 i j g st false z B (by have := hz.size; omega) (HO.out.below hz (by omega)) TxOk.zero)
  have HG := Lib.hid (fun z => cgroup_any g z)
  have HQ : Hid (¬ (idb i j = true ∧ 1 ≤ st ∧ st < 9223372036854775808 ∧ decide (0 ≤ g ∧ g < 4) = true) → false = p) := by
    show _ → _; intro h; rw [HP.out]; unfold T.cformed; rw [if_neg (by omega), if_neg (by omega), if_pos rfl]
    symm
    rw [Bool.and_eq_false_iff, Bool.and_eq_false_iff]
    by_cases hi : idb i j = true
    · right
      apply decide_eq_false
      exact fun e => h ⟨hi, e.2.2.1, e.2.2.2, decide_eq_true ⟨e.1, e.2.1⟩⟩
    · left; right; simpa using hi
  have HQ2 : Hid (idb i j = true → 1 ≤ st → st < 9223372036854775808 → decide (0 ≤ g ∧ g < 4) = true → decide ((2 : Int) = 2 ∧ (i = i ∧ j = j) ∧ g = g ∧ st = st ∧ y = false ∧ s = 0 ∧ q = 0 ∧ rs = [] ∧ ws = []) = p) := by
    show _ → _
    intro h1 h2 h3 h4
    rw [HP.out]; unfold T.cformed; rw [if_neg (by omega), if_neg (by omega), if_pos rfl, h1, Bool.and_true]
    have h4 := of_decide_eq_true h4
    rw [decide_eq_true (show 0 ≤ g ∧ g < 4 ∧ 1 ≤ st ∧ st < 9223372036854775808 from ⟨h4.1, h4.2, h2, h3⟩), Bool.and_true]
    apply decide_eq_decide.2
    exact ⟨fun ⟨_, _, _, _, h5, h6, h7, h8, h9⟩ => ⟨h6, h7, h8, h9, h5⟩, fun ⟨h6, h7, h8, h9, h5⟩ => ⟨rfl, ⟨rfl, rfl⟩, rfl, rfl, h5, h6, h7, h8, h9⟩⟩
  clear HP
  generalize decide ((2 : Int) = 2 ∧ (i = i ∧ j = j) ∧ g = g ∧ st = st ∧ y = false ∧ s = 0 ∧ q = 0 ∧ rs = [] ∧ ws = []) = r1 at *
  simp only [List.length_nil] at H1
  generalize rs.length = n1 at *
  generalize ws.length = n2 at *
  go_enter Tryd.func45, Tryd.ntmps45
  go_upto_region 1 with fail
  rw [← hw0]
  clear hw0
  go_wp2_with fail
  refine H0.out.mono ?_
  rintro e w1 ⟨rfl, b1⟩
  clear H0
  have a0 := cellB b1 a0
  have a1 := cellB b1 a1
  have a2 := cellB b1 a2
  have a3 := cellB b1 a3
  have a4 := cellB b1 a4
  have a5 := cellB b1 a5
  have a6 := cellB b1 a6
  have a7 := cellB b1 a7
  have a8 := cellB b1 a8
  have a9 := cellB b1 a9
  have e1 := g0.trans (b1.mono gB)
  cases hid : idb i j with
  | false =>
    have HR := Lib.hid (HQ.out fun h => by rw [hid] at h; exact Bool.noConfusion h.1)
    clear HQ HQ2 hid
    go_wp2_with fail
    go_ret
    exact ⟨ret_bool HR.out, e1⟩
  | true =>
    by_cases h1 : 1 ≤ st
    · have d1 : decide (1 ≤ (st : Int)) = true := by simp; omega
      by_cases h2 : st < 9223372036854775808
      · have d2 : decide ((st : Int) < 9223372036854775808) = true := by simp; omega
        cases hg : decide (0 ≤ g ∧ g < 4) with
        | false =>
          have HR := Lib.hid (HQ.out fun h => by rw [hg] at h; exact Bool.noConfusion h.2.2.2)
          rw [hg] at HG
          clear HQ HQ2 hid hg
          go_wp2_with fail
          refine (HG.out w1).mono ?_
          rintro e w' ⟨rfl, rfl⟩
          go_wp2_with fail
          go_ret
          exact ⟨ret_bool HR.out, e1⟩
        | true =>
          have HR := Lib.hid (HQ2.out hid h1 h2 hg)
          rw [hg] at HG
          clear HQ HQ2 hid hg
          go_wp2_with fail
          refine (HG.out w1).mono ?_
          rintro e w' ⟨rfl, rfl⟩
          go_wp2_with fail
          refine (H1.out w1 b1).mono ?_
          rintro e w2 ⟨rfl, b2⟩
          clear H1
          go_wp2_with fail
          go_ret
          exact ⟨ret_bool HR.out, e1.trans (b2.mono (by have := b1.size; omega))⟩
      · have d2 : decide ((st : Int) < 9223372036854775808) = false := by simp; omega
        have HR := Lib.hid (HQ.out fun h => h2 h.2.2.1)
        clear HQ HQ2 hid
        go_wp2_with fail
        go_ret
        exact ⟨ret_bool HR.out, e1⟩
    · have d1 : decide (1 ≤ (st : Int)) = false := by simp; omega
      have HR := Lib.hid (HQ.out fun h => h1 h.2.1)
      clear HQ HQ2 hid
      go_wp2_with fail
      go_ret
      exact ⟨ret_bool HR.out, e1⟩
set_option maxHeartbeats 6400000 in
theorem cf3 (s q : Int) (rs : List Rd1) (ws : List Wr1) (A1 : Option Addr) (c1 : Nat) (A2 : Option Addr) (c2 : Nat) (i j g : Int) (st : Nat) (y : Bool) (w : World) (B : Nat) (hB : B ≤ w.heap.size) (ok : TxOk w B rs ws A1 c1 A2 c2) (hT : Tabs w) :
    Calls Tryd.prog 45 #[.agg #[.int .i64 3, .int .i64 s, .int .i64 q, .slice A1 rs.length c1, .slice A2 ws.length c2, .int .i64 i, .int .i64 j, .int .i64 g, .int .u64 (st : Int), .bool y]] w fun e w' => e = .returned (.bool (T.cformed 3 s q rs ws i j g st y)) ∧ Below w.heap.size w w' := by
  obtain ⟨p, hp⟩ : ∃ p : Bool, p = (T.cformed 3 s q rs ws i j g st y) := ⟨_, rfl⟩
  have HP := Lib.hid hp
  rw [← hp]
  clear hp
  obtain ⟨w0, hw0⟩ : ∃ w0, w0 = w.alloc (.cells #[.int .i64 3, .int .i64 s, .int .i64 q, .slice A1 rs.length c1, .slice A2 ws.length c2, .int .i64 i, .int .i64 j, .int .i64 g, .int .u64 (st : Int), .bool y] 33) := ⟨_, rfl⟩
  have g0 : Below w.heap.size w w0 := by rw [hw0]; exact (Below.refl _ _).alloc (Nat.le_refl _) _
  obtain ⟨a0, a1, a2, a3, a4, a5, a6, a7, a8, a9⟩ : w0.cell? ⟨w.heap.size, 0, none⟩ = some (.int .i64 3) ∧ w0.cell? ⟨w.heap.size, 1, none⟩ = some (.int .i64 s) ∧ w0.cell? ⟨w.heap.size, 2, none⟩ = some (.int .i64 q) ∧ w0.cell? ⟨w.heap.size, 3, none⟩ = some (.slice A1 rs.length c1) ∧ w0.cell? ⟨w.heap.size, 4, none⟩ = some (.slice A2 ws.length c2) ∧ w0.cell? ⟨w.heap.size, 5, none⟩ = some (.int .i64 i) ∧ w0.cell? ⟨w.heap.size, 6, none⟩ = some (.int .i64 j) ∧ w0.cell? ⟨w.heap.size, 7, none⟩ = some (.int .i64 g) ∧ w0.cell? ⟨w.heap.size, 8, none⟩ = some (.int .u64 (st : Int)) ∧ w0.cell? ⟨w.heap.size, 9, none⟩ = some (.bool y) := by
    rw [hw0]; exact ⟨by simp, by simp, by simp, by simp, by simp, by simp, by simp, by simp, by simp, by simp⟩
  have gB := g0.size
  have HO := Lib.hid (ok.below g0 hB)
  have HT := Lib.hid (hT.below g0)
  clear hT
  clear ok
  have H0 := Lib.hid (tid_any i j w0)
  have H1 := Lib.hid (fun z (hz : Below w0.heap.size w0 z) => csame_any 3 s q rs ws A1 c1 A2 c2 i j g st y 3 0 0 [] [] none 0 none 0 i j g 0 y z B (by have := hz.size; omega) (HO.out.below hz (by omega)) TxOk.zero)
  have HG := Lib.hid (fun z => cgroup_any g z)
  have HQ : Hid (¬ (idb i j = true ∧ decide (0 ≤ g ∧ g < 4) = true) → false = p) := by
    show _ → _; intro h; rw [HP.out]; unfold T.cformed; rw [if_neg (by omega), if_neg (by omega), if_neg (by omega), if_pos rfl]
    symm
    rw [Bool.and_eq_false_iff, Bool.and_eq_false_iff]
    by_cases hi : idb i j = true
    · right
      cases hg : decide (0 ≤ g ∧ g < 4) with
      | false => rfl
      | true => exact absurd ⟨hi, hg⟩ h
    · left; right; simpa using hi
  have HQ2 : Hid (idb i j = true → decide (0 ≤ g ∧ g < 4) = true → decide ((3 : Int) = 3 ∧ (i = i ∧ j = j) ∧ g = g ∧ st = 0 ∧ y = y ∧ s = 0 ∧ q = 0 ∧ rs = [] ∧ ws = []) = p) := by
    show _ → _
    intro h1 h4
    rw [HP.out]; unfold T.cformed; rw [if_neg (by omega), if_neg (by omega), if_neg (by omega), if_pos rfl, h1, Bool.and_true, h4, Bool.and_true]
    apply decide_eq_decide.2
    exact ⟨fun ⟨_, _, _, h5, _, h6, h7, h8, h9⟩ => ⟨h6, h7, h8, h9, h5⟩, fun ⟨h6, h7, h8, h9, h5⟩ => ⟨rfl, ⟨rfl, rfl⟩, rfl, h5, rfl, h6, h7, h8, h9⟩⟩
  clear HP
  generalize decide ((3 : Int) = 3 ∧ (i = i ∧ j = j) ∧ g = g ∧ st = 0 ∧ y = y ∧ s = 0 ∧ q = 0 ∧ rs = [] ∧ ws = []) = r1 at *
  simp only [List.length_nil] at H1
  generalize rs.length = n1 at *
  generalize ws.length = n2 at *
  go_enter Tryd.func45, Tryd.ntmps45
  go_upto_region 1 with fail
  rw [← hw0]
  clear hw0
  go_wp2_with fail
  refine H0.out.mono ?_
  rintro e w1 ⟨rfl, b1⟩
  clear H0
  have a0 := cellB b1 a0
  have a1 := cellB b1 a1
  have a2 := cellB b1 a2
  have a3 := cellB b1 a3
  have a4 := cellB b1 a4
  have a5 := cellB b1 a5
  have a6 := cellB b1 a6
  have a7 := cellB b1 a7
  have a8 := cellB b1 a8
  have a9 := cellB b1 a9
  have e1 := g0.trans (b1.mono gB)
  cases hid : idb i j with
  | false =>
    have HR := Lib.hid (HQ.out fun h => by rw [hid] at h; exact Bool.noConfusion h.1)
    clear HQ HQ2 hid
    go_wp2_with fail
    go_ret
    exact ⟨ret_bool HR.out, e1⟩
  | true =>
    cases hg : decide (0 ≤ g ∧ g < 4) with
    | false =>
      have HR := Lib.hid (HQ.out fun h => by rw [hg] at h; exact Bool.noConfusion h.2)
      rw [hg] at HG
      clear HQ HQ2 hid hg
      go_wp2_with fail
      refine (HG.out w1).mono ?_
      rintro e w' ⟨rfl, rfl⟩
      go_wp2_with fail
      go_ret
      exact ⟨ret_bool HR.out, e1⟩
    | true =>
      have HR := Lib.hid (HQ2.out hid hg)
      rw [hg] at HG
      clear HQ HQ2 hid hg
      go_wp2_with fail
      refine (HG.out w1).mono ?_
      rintro e w' ⟨rfl, rfl⟩
      go_wp2_with fail
      refine (H1.out w1 b1).mono ?_
      rintro e w2 ⟨rfl, b2⟩
      clear H1
      go_wp2_with fail
      go_ret
      exact ⟨ret_bool HR.out, e1.trans (b2.mono (by have := b1.size; omega))⟩
set_option maxHeartbeats 6400000 in
theorem cf4 (k : Int) (k0 : ¬ k = 0) (k1 : ¬ k = 1) (k2 : ¬ k = 2) (k3 : ¬ k = 3) (s q : Int) (rs : List Rd1) (ws : List Wr1) (A1 : Option Addr) (c1 : Nat) (A2 : Option Addr) (c2 : Nat) (i j g : Int) (st : Nat) (y : Bool) (w : World) (B : Nat) (hB : B ≤ w.heap.size) (ok : TxOk w B rs ws A1 c1 A2 c2) (hT : Tabs w) :
    Calls Tryd.prog 45 #[.agg #[.int .i64 k, .int .i64 s, .int .i64 q, .slice A1 rs.length c1, .slice A2 ws.length c2, .int .i64 i, .int .i64 j, .int .i64 g, .int .u64 (st : Int), .bool y]] w fun e w' => e = .returned (.bool (T.cformed k s q rs ws i j g st y)) ∧ Below w.heap.size w w' := by
  obtain ⟨p, hp⟩ : ∃ p : Bool, p = (T.cformed k s q rs ws i j g st y) := ⟨_, rfl⟩
  have HP := Lib.hid hp
  rw [← hp]
  clear hp
  obtain ⟨w0, hw0⟩ : ∃ w0, w0 = w.alloc (.cells #[.int .i64 k, .int .i64 s, .int .i64 q, .slice A1 rs.length c1, .slice A2 ws.length c2, .int .i64 i, .int .i64 j, .int .i64 g, .int .u64 (st : Int), .bool y] 33) := ⟨_, rfl⟩
  have g0 : Below w.heap.size w w0 := by rw [hw0]; exact (Below.refl _ _).alloc (Nat.le_refl _) _
  obtain ⟨a0, a1, a2, a3, a4, a5, a6, a7, a8, a9⟩ : w0.cell? ⟨w.heap.size, 0, none⟩ = some (.int .i64 k) ∧ w0.cell? ⟨w.heap.size, 1, none⟩ = some (.int .i64 s) ∧ w0.cell? ⟨w.heap.size, 2, none⟩ = some (.int .i64 q) ∧ w0.cell? ⟨w.heap.size, 3, none⟩ = some (.slice A1 rs.length c1) ∧ w0.cell? ⟨w.heap.size, 4, none⟩ = some (.slice A2 ws.length c2) ∧ w0.cell? ⟨w.heap.size, 5, none⟩ = some (.int .i64 i) ∧ w0.cell? ⟨w.heap.size, 6, none⟩ = some (.int .i64 j) ∧ w0.cell? ⟨w.heap.size, 7, none⟩ = some (.int .i64 g) ∧ w0.cell? ⟨w.heap.size, 8, none⟩ = some (.int .u64 (st : Int)) ∧ w0.cell? ⟨w.heap.size, 9, none⟩ = some (.bool y) := by
    rw [hw0]; exact ⟨by simp, by simp, by simp, by simp, by simp, by simp, by simp, by simp, by simp, by simp⟩
  have gB := g0.size
  have HO := Lib.hid (ok.below g0 hB)
  have HT := Lib.hid (hT.below g0)
  clear hT
  clear ok
  have HR : Hid (false = p) := by show _ = _; rw [HP.out]; unfold T.cformed; rw [if_neg k0, if_neg k1, if_neg k2, if_neg k3]
  generalize rs.length = n1 at *
  generalize ws.length = n2 at *
  go_enter Tryd.func45, Tryd.ntmps45
  go_upto_region 1 with fail
  rw [← hw0]
  clear hw0
  go_wp2_with fail
  go_ret
  exact ⟨ret_bool HR.out, g0⟩
theorem cformed_any (k : Int) (s q : Int) (rs : List Rd1) (ws : List Wr1) (A1 : Option Addr) (c1 : Nat) (A2 : Option Addr) (c2 : Nat) (i j g : Int) (st : Nat) (y : Bool) (w : World) (B : Nat) (hB : B ≤ w.heap.size) (ok : TxOk w B rs ws A1 c1 A2 c2) (hT : Tabs w) :
    Calls Tryd.prog 45 #[.agg #[.int .i64 k, .int .i64 s, .int .i64 q, .slice A1 rs.length c1, .slice A2 ws.length c2, .int .i64 i, .int .i64 j, .int .i64 g, .int .u64 (st : Int), .bool y]] w fun e w' => e = .returned (.bool (T.cformed k s q rs ws i j g st y)) ∧ Below w.heap.size w w' := by
  by_cases k0 : k = 0
  · subst k0; exact cf0 s q rs ws A1 c1 A2 c2 i j g st y w B hB ok hT
  · by_cases k1 : k = 1
    · subst k1; exact cf1 s q rs ws A1 c1 A2 c2 i j g st y w B hB ok hT
    · by_cases k2 : k = 2
      · subst k2; exact cf2 s q rs ws A1 c1 A2 c2 i j g st y w B hB ok hT
      · by_cases k3 : k = 3
        · subst k3; exact cf3 s q rs ws A1 c1 A2 c2 i j g st y w B hB ok hT
        · exact cf4 k k0 k1 k2 k3 s q rs ws A1 c1 A2 c2 i j g st y w B hB ok hT
end Go.Proofs.YtjofjpmhokjhnaaDoor

namespace Go.Proofs.YtjofjpmhokjhnaaDoor
set_option maxRecDepth 20001
open Go.RowKit T
set_option linter.unusedSimpArgs false
set_option linter.unusedVariables false

namespace T
/-- the first half of Formed: what is used, and the bounds -/
def Ms.fit (m : Ms) : Bool := !decide (fieldsOf m.kd = []) && m.only.same m && !decide (m.sl < 0) && !decide (1000000 < m.sl) && !decide (m.nu < 0) && !decide (2147483647 < m.nu) && !decide (m.g < 0) && !decide (4 ≤ m.g) && !decide (m.er < 0) && !decide (11 < m.er) && !decide (59900 < (m.dt.length : Int))
/-- the second half: the parts -/
def Ms.sound (m : Ms) : Bool := !(decide ((66 : UInt8) ∈ fieldsOf m.kd) && !B.formed m.bn) && !(m.ha && !B.formed m.vn) && !((decide ((67 : UInt8) ∈ fieldsOf m.kd) || m.ha) && !m.c.formed) && !(decide ((84 : UInt8) ∈ fieldsOf m.kd) && !T.formed m.t.s m.t.q m.t.rs m.t.ws) && !(decide ((73 : UInt8) ∈ fieldsOf m.kd) && !T.idb m.ii m.ij) && V.formed m.vk m.vb m.vt.data.toList && !(decide ((75 : UInt8) ∈ fieldsOf m.kd) && !V.key m.ky.data.toList && (!decide (m.ky.data.toList = []) || !decide (m.kd = 13)))
def Ms.formed (m : Ms) : Bool := m.fit && m.sound
end T
end Go.Proofs.YtjofjpmhokjhnaaDoor
