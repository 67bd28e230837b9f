/- The walk of txn.Same. Condition: what lies, lies below. -/
import Derived.Test.YtjofjpmhokjhnaaDoorWlM16
namespace Go.Proofs.YtjofjpmhokjhnaaDoor
set_option maxRecDepth 20000
open Go.RowKit T
set_option linter.unusedSimpArgs false
set_option linter.unusedVariables false

theorem cell44 (w : World) (u0 u1 u2 u3 v0 v1 v2 v3 : Value) (e : TypeId) :
    ((w.alloc (.cells #[u0, u1, u2, u3] e)).alloc (.cells #[v0, v1, v2, v3] e)).cell? ⟨w.heap.size, 2, none⟩ = some u2 ∧ ((w.alloc (.cells #[u0, u1, u2, u3] e)).alloc (.cells #[v0, v1, v2, v3] e)).cell? ⟨w.heap.size, 3, none⟩ = some u3 ∧
    ((w.alloc (.cells #[u0, u1, u2, u3] e)).alloc (.cells #[v0, v1, v2, v3] e)).cell? ⟨w.heap.size + 1, 2, none⟩ = some v2 ∧ ((w.alloc (.cells #[u0, u1, u2, u3] e)).alloc (.cells #[v0, v1, v2, v3] e)).cell? ⟨w.heap.size + 1, 3, none⟩ = some v3 := by
  refine ⟨cellA _ (by simp), cellA _ (by simp), by simp, by simp⟩
set_option maxHeartbeats 3200000 in
theorem tsame_any (s q : Int) (rs : List Rd1) (ws : List Wr1) (A1 : Option Addr) (c1 : Nat) (A2 : Option Addr) (c2 : Nat) (s' q' : Int) (rs' : List Rd1) (ws' : List Wr1) (A1' : Option Addr) (c1' : Nat) (A2' : Option Addr) (c2' : Nat) (w : World) (B : Nat) (hB : B ≤ w.heap.size)
    (ok : TxOk w B rs ws A1 c1 A2 c2) (ok' : TxOk w B rs' ws' A1' c1' A2' c2') :
    Calls Tryd.prog 57 #[.agg #[.int .i64 s, .int .i64 q, .slice A1 rs.length c1, .slice A2 ws.length c2], .agg #[.int .i64 s', .int .i64 q', .slice A1' rs'.length c1', .slice A2' ws'.length c2']] w fun e w' =>
      e = .returned (.bool (decide (s = s' ∧ q = q' ∧ rs = rs' ∧ ws = ws'))) ∧ Below w.heap.size w w' := by
  obtain ⟨p, hp⟩ : ∃ p : Bool, p = decide (s = s' ∧ q = q' ∧ rs = rs' ∧ ws = ws') := ⟨_, rfl⟩
  have HP := Lib.hid hp
  rw [← hp]
  clear hp
  obtain ⟨w0, hw0⟩ : ∃ w0, w0 = (w.alloc (.cells #[.int .i64 s, .int .i64 q, .slice A1 rs.length c1, .slice A2 ws.length c2] 30)).alloc (.cells #[.int .i64 s', .int .i64 q', .slice A1' rs'.length c1', .slice A2' ws'.length c2'] 30) := ⟨_, rfl⟩
  have g0 : Below w.heap.size w w0 := by rw [hw0]; exact ((Below.refl _ _).alloc (Nat.le_refl _) _).alloc (by simp) _
  have y0 : w0.cell? ⟨w.heap.size, 0, none⟩ = some (.int .i64 s) ∧ w0.cell? ⟨w.heap.size, 1, none⟩ = some (.int .i64 q) ∧ w0.cell? ⟨w.heap.size + 1, 0, none⟩ = some (.int .i64 s') ∧ w0.cell? ⟨w.heap.size + 1, 1, none⟩ = some (.int .i64 q') := by
    rw [hw0]; exact ⟨cellA _ (by simp), cellA _ (by simp), by simp, by simp⟩
  have c := cell44 w (.int .i64 s) (.int .i64 q) (.slice A1 rs.length c1) (.slice A2 ws.length c2) (.int .i64 s') (.int .i64 q') (.slice A1' rs'.length c1') (.slice A2' ws'.length c2') 30
  rw [← hw0] at c
  obtain ⟨y1, y2, y3, y4⟩ := y0
  obtain ⟨z1, z2, z3, z4⟩ := c
  have gB := g0.size
  have H1 := Lib.hid (eqr_any rs rs' A1 A1' c1 c1' w0 B (by omega) (ok.r.below g0 hB) (ok'.r.below g0 hB) ok.rc ok.rm ok'.rc ok'.rm)
  have H2 := Lib.hid (fun z (hz : Below w0.heap.size w0 z) => eqw_any ws ws' A2 A2' c2 c2' z B (by have := hz.size; omega) ((ok.w.below g0 hB).below hz (by omega)) ((ok'.w.below g0 hB).below hz (by omega)) ok.wc ok.wm ok'.wc ok'.wm)
  clear ok ok'
  generalize rs.length = n1 at *
  generalize rs'.length = n1' at *
  generalize ws.length = n2 at *
  generalize ws'.length = n2' at *
  go_enter Tryd.func57, Tryd.ntmps57
  go_upto_region 1 with fail
  rw [← hw0]
  clear hw0
  have hI := fun z => run_eqId s q s' q' z
  cases hd : decide (s = s' ∧ q = q') with
  | false =>
    rw [hd] at hI
    have HR : Hid (false = p) := by show _ = _; rw [HP.out, decide_eq_false]; exact fun e => of_decide_eq_false hd ⟨e.1, e.2.1⟩
    clear hd
    go_wp2_with fail
    go_ret
    exact ⟨ret_bool HR.out, g0⟩
  | true =>
    rw [hd] at hI
    have HD := of_decide_eq_true hd
    have HP2 : Hid (p = decide (rs = rs' ∧ ws = ws')) := by show _ = _; rw [HP.out]; simp [HD.1, HD.2]
    clear hd HD HP
    go_wp2_with fail
    refine H1.out.mono ?_
    rintro e w1 ⟨rfl, b1⟩
    have z2 := cellB b1 z2
    have z4 := cellB b1 z4
    have s1 := b1.size
    have e1 := g0.trans (b1.mono gB)
    cases hr : decide (rs = rs') with
    | false =>
      have HR : Hid (false = p) := by show _ = _; rw [HP2.out, decide_eq_false]; exact fun e => of_decide_eq_false hr e.1
      clear hr
      go_wp2_with fail
      go_ret
      exact ⟨ret_bool HR.out, e1⟩
    | true =>
      have HR : Hid (decide (ws = ws') = p) := by show _ = _; rw [HP2.out]; simp [of_decide_eq_true hr]
      clear hr HP2
      go_wp2_with fail
      refine (H2.out w1 b1).mono ?_
      rintro e w2 ⟨rfl, b2⟩
      generalize decide (ws = ws') = r at *
      go_wp2_with fail
      go_ret
      exact ⟨ret_bool (by rw [← HR.out]), e1.trans (b2.mono (by omega))⟩
set_option maxHeartbeats 6400000 in
theorem csame_any (k s q : Int) (rs : List Rd1) (ws : List Wr1) (A1 : Option Addr) (c1 : Nat) (A2 : Option Addr) (c2 : Nat) (i j g : Int) (st : Nat) (y : Bool) (k' s' q' : Int) (rs' : List Rd1) (ws' : List Wr1) (A1' : Option Addr) (c1' : Nat) (A2' : Option Addr) (c2' : Nat) (i' j' g' : Int) (st' : Nat) (y' : Bool) (w : World) (B : Nat) (hB : B ≤ w.heap.size)
    (ok : TxOk w B rs ws A1 c1 A2 c2) (ok' : TxOk w B rs' ws' A1' c1' A2' c2') :
    Calls Tryd.prog 56 #[.agg #[.int .i64 k, .int .i64 s, .int .i64 q, .slice A1 rs.length c1, .slice A2 ws.length c2, .int .i64 i, .int .i64 j, .int .i64 g, .int .u64 (st : Int), .bool y], .agg #[.int .i64 k', .int .i64 s', .int .i64 q', .slice A1' rs'.length c1', .slice A2' ws'.length c2', .int .i64 i', .int .i64 j', .int .i64 g', .int .u64 (st' : Int), .bool y']] w fun e w' =>
      e = .returned (.bool (decide (k = k' ∧ (i = i' ∧ j = j') ∧ g = g' ∧ st = st' ∧ y = y' ∧ s = s' ∧ q = q' ∧ rs = rs' ∧ ws = ws'))) ∧ Below w.heap.size w w' := by
  obtain ⟨p, hp⟩ : ∃ p : Bool, p = decide (k = k' ∧ (i = i' ∧ j = j') ∧ g = g' ∧ st = st' ∧ y = y' ∧ s = s' ∧ q = q' ∧ rs = rs' ∧ ws = ws') := ⟨_, rfl⟩
  have HP := Lib.hid hp
  rw [← hp]
  clear hp
  obtain ⟨w0, hw0⟩ : ∃ w0, w0 = (w.alloc (.cells #[.int .i64 k, .int .i64 s, .int .i64 q, .slice A1 rs.length c1, .slice A2 ws.length c2, .int .i64 i, .int .i64 j, .int .i64 g, .int .u64 (st : Int), .bool y] 33)).alloc (.cells #[.int .i64 k', .int .i64 s', .int .i64 q', .slice A1' rs'.length c1', .slice A2' ws'.length c2', .int .i64 i', .int .i64 j', .int .i64 g', .int .u64 (st' : Int), .bool y'] 33) := ⟨_, rfl⟩
  have g0 : Below w.heap.size w w0 := by rw [hw0]; exact ((Below.refl _ _).alloc (Nat.le_refl _) _).alloc (by simp) _
  obtain ⟨a0, a1, a2, a3, a4, a5, a6, a7, a8, a9, b0, b1, b2, b3, b4, b5, b6, b7, b8, b9⟩ : w0.cell? ⟨w.heap.size, 0, none⟩ = some (.int .i64 k) ∧ w0.cell? ⟨w.heap.size, 1, none⟩ = some (.int .i64 s) ∧ w0.cell? ⟨w.heap.size, 2, none⟩ = some (.int .i64 q) ∧ w0.cell? ⟨w.heap.size, 3, none⟩ = some (.slice A1 rs.length c1) ∧ w0.cell? ⟨w.heap.size, 4, none⟩ = some (.slice A2 ws.length c2) ∧ w0.cell? ⟨w.heap.size, 5, none⟩ = some (.int .i64 i) ∧ w0.cell? ⟨w.heap.size, 6, none⟩ = some (.int .i64 j) ∧ w0.cell? ⟨w.heap.size, 7, none⟩ = some (.int .i64 g) ∧ w0.cell? ⟨w.heap.size, 8, none⟩ = some (.int .u64 (st : Int)) ∧ w0.cell? ⟨w.heap.size, 9, none⟩ = some (.bool y) ∧ w0.cell? ⟨w.heap.size + 1, 0, none⟩ = some (.int .i64 k') ∧ w0.cell? ⟨w.heap.size + 1, 1, none⟩ = some (.int .i64 s') ∧ w0.cell? ⟨w.heap.size + 1, 2, none⟩ = some (.int .i64 q') ∧ w0.cell? ⟨w.heap.size + 1, 3, none⟩ = some (.slice A1' rs'.length c1') ∧ w0.cell? ⟨w.heap.size + 1, 4, none⟩ = some (.slice A2' ws'.length c2') ∧ w0.cell? ⟨w.heap.size + 1, 5, none⟩ = some (.int .i64 i') ∧ w0.cell? ⟨w.heap.size + 1, 6, none⟩ = some (.int .i64 j') ∧ w0.cell? ⟨w.heap.size + 1, 7, none⟩ = some (.int .i64 g') ∧ w0.cell? ⟨w.heap.size + 1, 8, none⟩ = some (.int .u64 (st' : Int)) ∧ w0.cell? ⟨w.heap.size + 1, 9, none⟩ = some (.bool y') := by
    rw [hw0]; exact ⟨cellA _ (by simp), cellA _ (by simp), cellA _ (by simp), cellA _ (by simp), cellA _ (by simp), cellA _ (by simp), cellA _ (by simp), cellA _ (by simp), cellA _ (by simp), cellA _ (by simp), by simp, by simp, by simp, by simp, by simp, by simp, by simp, by simp, by simp, by simp⟩
  have gB := g0.size
  have H1 := Lib.hid (tsame_any s q rs ws A1 c1 A2 c2 s' q' rs' ws' A1' c1' A2' c2' w0 B (by omega) (ok.below g0 hB) (ok'.below g0 hB))
  clear ok ok'
  generalize rs.length = n1 at *
  generalize rs'.length = n1' at *
  generalize ws.length = n2 at *
  generalize ws'.length = n2' at *
  go_enter Tryd.func56, Tryd.ntmps56
  go_upto_region 1 with fail
  rw [← hw0]
  clear hw0
  have hI := fun z => run_eqId i j i' j' z
  have HR1 : Hid (¬ k = k' → false = p) := by show _ → _; intro h; rw [HP.out, decide_eq_false]; exact fun e => h e.1
  have HR2 : Hid (decide (i = i' ∧ j = j') = false → false = p) := by show _ → _; intro h; rw [HP.out, decide_eq_false]; exact fun e => of_decide_eq_false h e.2.1
  have HR3 : Hid (¬ g = g' → false = p) := by show _ → _; intro h; rw [HP.out, decide_eq_false]; exact fun e => h e.2.2.1
  have HR4 : Hid (¬ st = st' → false = p) := by show _ → _; intro h; rw [HP.out, decide_eq_false]; exact fun e => h e.2.2.2.1
  have HR5 : Hid (¬ y = y' → false = p) := by show _ → _; intro h; rw [HP.out, decide_eq_false]; exact fun e => h e.2.2.2.2.1
  have HR6 : Hid (k = k' → decide (i = i' ∧ j = j') = true → g = g' → st = st' → y = y' → decide (s = s' ∧ q = q' ∧ rs = rs' ∧ ws = ws') = p) := by
    show _ → _
    intro h1 h2 h3 h4 h5
    rw [HP.out]
    have := of_decide_eq_true h2
    simp [h1, this.1, this.2, h3, h4, h5]
  clear HP
  by_cases hk : k = k'
  · have dk : (k == k') = true := by simp [hk]
    cases hd : decide (i = i' ∧ j = j') with
    | false =>
      rw [hd] at hI HR2
      have HR := Lib.hid (HR2.out rfl)
      clear hd hk HR1 HR2 HR3 HR4 HR5 HR6
      go_wp2_with fail
      go_ret
      exact ⟨ret_bool HR.out, g0⟩
    | true =>
      rw [hd] at hI HR6
      by_cases hg : g = g'
      · have dg : (g == g') = true := by simp [hg]
        by_cases hst : st = st'
        · have dst : ((st : Int) == (st' : Int)) = true := by simp [hst]
          by_cases hy : y = y'
          · have dy : (y == y') = true := by simp [hy]
            have HR := Lib.hid (HR6.out hk rfl hg hst hy)
            clear hd hk hg hst hy HR1 HR2 HR3 HR4 HR5 HR6
            go_wp2_with fail
            refine H1.out.mono ?_
            rintro e w1 ⟨rfl, b1⟩
            clear H1
            generalize decide (s = s' ∧ q = q' ∧ rs = rs' ∧ ws = ws') = r at *
            go_wp2_with fail
            go_ret
            exact ⟨ret_bool (by rw [← HR.out]), g0.trans (b1.mono gB)⟩
          · have dy : (y == y') = false := by simp [hy]
            have HR := Lib.hid (HR5.out hy)
            clear hd hk hg hst hy HR1 HR2 HR3 HR4 HR5 HR6
            go_wp2_with fail
            go_ret
            exact ⟨ret_bool HR.out, g0⟩
        · have dst : ((st : Int) == (st' : Int)) = false := by simp; omega
          have HR := Lib.hid (HR4.out hst)
          clear hd hk hg hst HR1 HR2 HR3 HR4 HR5 HR6
          go_wp2_with fail
          go_ret
          exact ⟨ret_bool HR.out, g0⟩
      · have dg : (g == g') = false := by simp [hg]
        have HR := Lib.hid (HR3.out hg)
        clear hd hk hg HR1 HR2 HR3 HR4 HR5 HR6
        go_wp2_with fail
        go_ret
        exact ⟨ret_bool HR.out, g0⟩
  · have dk : (k == k') = false := by simp [hk]
    have HR := Lib.hid (HR1.out hk)
    clear hk HR1 HR2 HR3 HR4 HR5 HR6
    go_wp2_with fail
    go_ret
    exact ⟨ret_bool HR.out, g0⟩
end Go.Proofs.YtjofjpmhokjhnaaDoor
