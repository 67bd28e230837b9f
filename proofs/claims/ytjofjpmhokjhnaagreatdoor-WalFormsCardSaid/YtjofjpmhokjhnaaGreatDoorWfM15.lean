import Derived.Test.YtjofjpmhokjhnaaGreatDoorWfM14
import Derived.Test.YtjofjpmhokjhnaaGreatDoorWfM13
import Derived.Deep.QuietTactic
set_option linter.unusedSimpArgs false
set_option linter.unusedVariables false
namespace Go.Proofs.YtjofjpmhokjhnaaGreatDoor
set_option maxRecDepth 20000
open Go.RowKit T
theorem cell44 (w : World) (u0 u1 u2 u3 v0 v1 v2 v3 : Value) (e : TypeId) :
 ((w.alloc (.cells #[u0, u1, u2, u3] e)).alloc (.cells #[v0, v1, v2, v3] e)).cell? ⟨w.heap.size, 2, none⟩ = some u2 ∧ ((w.alloc (.cells #[u0, u1, u2, u3] e)).alloc (.cells #[v0, v1, v2, v3] e)).cell? ⟨w.heap.size, 3, none⟩ = some u3 ∧
 ((w.alloc (.cells #[u0, u1, u2, u3] e)).alloc (.cells #[v0, v1, v2, v3] e)).cell? ⟨w.heap.size + 1, 2, none⟩ = some v2 ∧ ((w.alloc (.cells #[u0, u1, u2, u3] e)).alloc (.cells #[v0, v1, v2, v3] e)).cell? ⟨w.heap.size + 1, 3, none⟩ = some v3 := by
 refine ⟨cellA _ (by simp), cellA _ (by simp), by simp, by simp⟩
set_option maxHeartbeats 3200000 in
theorem tsame_any (s q : Int) (rs : List Rd1) (ws : List Wr1) (A1 : Option Addr) (c1 : Nat) (A2 : Option Addr) (c2 : Nat) (s' q' : Int) (rs' : List Rd1) (ws' : List Wr1) (A1' : Option Addr) (c1' : Nat) (A2' : Option Addr) (c2' : Nat) (w : World) (B : Nat) (hB : B ≤ w.heap.size)
 (ok : TxOk w B rs ws A1 c1 A2 c2) (ok' : TxOk w B rs' ws' A1' c1' A2' c2') :
 Calls Tryz.prog 98 #[.agg #[.int .i64 s, .int .i64 q, .slice A1 rs.length c1, .slice A2 ws.length c2], .agg #[.int .i64 s', .int .i64 q', .slice A1' rs'.length c1', .slice A2' ws'.length c2']] w fun e w' =>
  e = .returned (.bool (decide (s = s' ∧ q = q' ∧ rs = rs' ∧ ws = ws'))) ∧ Below w.heap.size w w' := by
 obtain ⟨p, hp⟩ : ∃ p : Bool, p = decide (s = s' ∧ q = q' ∧ rs = rs' ∧ ws = ws') := ⟨_, rfl⟩
 have HP := Lib.hid hp
 rw [← hp]
 clear hp
 obtain ⟨w0, hw0⟩ : ∃ w0, w0 = (w.alloc (.cells #[.int .i64 s, .int .i64 q, .slice A1 rs.length c1, .slice A2 ws.length c2] 30)).alloc (.cells #[.int .i64 s', .int .i64 q', .slice A1' rs'.length c1', .slice A2' ws'.length c2'] 30) := ⟨_, rfl⟩
 have g0 : Below w.heap.size w w0 := by rw [hw0]; exact ((Below.refl _ _).alloc (Nat.le_refl _) _).alloc (by simp) _
 have y0 : w0.cell? ⟨w.heap.size, 0, none⟩ = some (.int .i64 s) ∧ w0.cell? ⟨w.heap.size, 1, none⟩ = some (.int .i64 q) ∧ w0.cell? ⟨w.heap.size + 1, 0, none⟩ = some (.int .i64 s') ∧ w0.cell? ⟨w.heap.size + 1, 1, none⟩ = some (.int .i64 q') := by
  rw [hw0]; exact ⟨cellA _ (by simp), cellA _ (by simp), by simp, by simp⟩
 have c := cell44 w (.int .i64 s) (.int .i64 q) (.slice A1 rs.length c1) (.slice A2 ws.length c2) (.int .i64 s') (.int .i64 q') (.slice A1' rs'.length c1') (.slice A2' ws'.length c2') 30
 rw [← hw0] at c
 obtain ⟨y1, y2, y3, y4⟩ := y0
 obtain ⟨z1, z2, z3, z4⟩ := c
 have gB := g0.size
 have H1 := Lib.hid (eqr_any rs rs' A1 A1' c1 c1' w0 B (by omega) (ok.r.below g0 hB) (ok'.r.below g0 hB) ok.rc ok.rm ok'.rc ok'.rm)
 have H2 := Lib.hid (fun z (hz : Below w0.heap.size w0 z) => eqw_any ws ws' A2 A2' c2 c2' z B (by have := hz.size; omega) ((ok.w.below g0 hB).below hz (by omega)) ((ok'.w.below g0 hB).below hz (by omega)) ok.wc ok.wm ok'.wc ok'.wm)
 clear ok ok'
 generalize rs.length = n1 at *
 generalize rs'.length = n1' at *
 generalize ws.length = n2 at *
 generalize ws'.length = n2' at *
 go_enter Tryz.func98, Tryz.ntmps98
 go_upto_region 1 with fail
 rw [← hw0]
 clear hw0
 have hI := fun z => run_eqId s q s' q' z
 cases hd : decide (s = s' ∧ q = q') with
 | false =>
   rw [hd] at hI
   have HR : Hid (false = p) := by show _ = _; rw [HP.out, decide_eq_false]; exact fun e => of_decide_eq_false hd ⟨e.1, e.2.1⟩
   clear hd
   go_wp2_with fail
   go_ret
   exact ⟨ret_bool HR.out, g0⟩
 | true =>
   rw [hd] at hI
   have HD := of_decide_eq_true hd
   have HP2 : Hid (p = decide (rs = rs' ∧ ws = ws')) := by show _ = _; rw [HP.out]; simp [HD.1, HD.2]
   clear hd HD HP
   go_wp2_with fail
   refine H1.out.mono ?_
   rintro e w1 ⟨rfl, b1⟩
   have z2 := cellB b1 z2
   have z4 := cellB b1 z4
   have s1 := b1.size
   have e1 := g0.trans (b1.mono gB)
   cases hr : decide (rs = rs') with
   | false =>
     have HR : Hid (false = p) := by show _ = _; rw [HP2.out, decide_eq_false]; exact fun e => of_decide_eq_false hr e.1
     clear hr
     go_wp2_with fail
     go_ret
     exact ⟨ret_bool HR.out, e1⟩
   | true =>
     have HR : Hid (decide (ws = ws') = p) := by show _ = _; rw [HP2.out]; simp [of_decide_eq_true hr]
     clear hr HP2
     go_wp2_with fail
     refine (H2.out w1 b1).mono ?_
     rintro e w2 ⟨rfl, b2⟩
     generalize decide (ws = ws') = r at *
     go_wp2_with fail
     go_ret
     exact ⟨ret_bool (by rw [← HR.out]), e1.trans (b2.mono (by omega))⟩
set_option maxHeartbeats 6400000 in
theorem csame_any (k s q : Int) (rs : List Rd1) (ws : List Wr1) (A1 : Option Addr) (c1 : Nat) (A2 : Option Addr) (c2 : Nat) (i j g : Int) (st : Nat) (y : Bool) (k' s' q' : Int) (rs' : List Rd1) (ws' : List Wr1) (A1' : Option Addr) (c1' : Nat) (A2' : Option Addr) (c2' : Nat) (i' j' g' : Int) (st' : Nat) (y' : Bool) (w : World) (B : Nat) (hB : B ≤ w.heap.size)
 (ok : TxOk w B rs ws A1 c1 A2 c2) (ok' : TxOk w B rs' ws' A1' c1' A2' c2') :
 Calls Tryz.prog 52 #[.agg #[.int .i64 k, .int .i64 s, .int .i64 q, .slice A1 rs.length c1, .slice A2 ws.length c2, .int .i64 i, .int .i64 j, .int .i64 g, .int .u64 (st : Int), .bool y], .agg #[.int .i64 k', .int .i64 s', .int .i64 q', .slice A1' rs'.length c1', .slice A2' ws'.length c2', .int .i64 i', .int .i64 j', .int .i64 g', .int .u64 (st' : Int), .bool y']] w fun e w' =>
  e = .returned (.bool (decide (k = k' ∧ (i = i' ∧ j = j') ∧ g = g' ∧ st = st' ∧ y = y' ∧ s = s' ∧ q = q' ∧ rs = rs' ∧ ws = ws'))) ∧ Below w.heap.size w w' := by
 obtain ⟨p, hp⟩ : ∃ p : Bool, p = decide (k = k' ∧ (i = i' ∧ j = j') ∧ g = g' ∧ st = st' ∧ y = y' ∧ s = s' ∧ q = q' ∧ rs = rs' ∧ ws = ws') := ⟨_, rfl⟩
 have HP := Lib.hid hp
 rw [← hp]
 clear hp
 obtain ⟨w0, hw0⟩ : ∃ w0, w0 = (w.alloc (.cells #[.int .i64 k, .int .i64 s, .int .i64 q, .slice A1 rs.length c1, .slice A2 ws.length c2, .int .i64 i, .int .i64 j, .int .i64 g, .int .u64 (st : Int), .bool y] 33)).alloc (.cells #[.int .i64 k', .int .i64 s', .int .i64 q', .slice A1' rs'.length c1', .slice A2' ws'.length c2', .int .i64 i', .int .i64 j', .int .i64 g', .int .u64 (st' : Int), .bool y'] 33) := ⟨_, rfl⟩
 have g0 : Below w.heap.size w w0 := by rw [hw0]; exact ((Below.refl _ _).alloc (Nat.le_refl _) _).alloc (by simp) _
 obtain ⟨a0, a1, a2, a3, a4, a5, a6, a7, a8, a9, b0, b1, b2, b3, b4, b5, b6, b7, b8, b9⟩ : w0.cell? ⟨w.heap.size, 0, none⟩ = some (.int .i64 k) ∧ w0.cell? ⟨w.heap.size, 1, none⟩ = some (.int .i64 s) ∧ w0.cell? ⟨w.heap.size, 2, none⟩ = some (.int .i64 q) ∧ w0.cell? ⟨w.heap.size, 3, none⟩ = some (.slice A1 rs.length c1) ∧ w0.cell? ⟨w.heap.size, 4, none⟩ = some (.slice A2 ws.length c2) ∧ w0.cell? ⟨w.heap.size, 5, none⟩ = some (.int .i64 i) ∧ w0.cell? ⟨w.heap.size, 6, none⟩ = some (.int .i64 j) ∧ w0.cell? ⟨w.heap.size, 7, none⟩ = some (.int .i64 g) ∧ w0.cell? ⟨w.heap.size, 8, none⟩ = some (.int .u64 (st : Int)) ∧ w0.cell? ⟨w.heap.size, 9, none⟩ = some (.bool y) ∧ w0.cell? ⟨w.heap.size + 1, 0, none⟩ = some (.int .i64 k') ∧ w0.cell? ⟨w.heap.size + 1, 1, none⟩ = some (.int .i64 s') ∧ w0.cell? ⟨w.heap.size + 1, 2, none⟩ = some (.int .i64 q') ∧ w0.cell? ⟨w.heap.size + 1, 3, none⟩ = some (.slice A1' rs'.length c1') ∧ w0.cell? ⟨w.heap.size + 1, 4, none⟩ = some (.slice A2' ws'.length c2') ∧ w0.cell? ⟨w.heap.size + 1, 5, none⟩ = some (.int .i64 i') ∧ w0.cell? ⟨w.heap.size + 1, 6, none⟩ = some (.int .i64 j') ∧ w0.cell? ⟨w.heap.size + 1, 7, none⟩ = some (.int .i64 g') ∧ w0.cell? ⟨w.heap.size + 1, 8, none⟩ = some (.int .u64 (st' : Int)) ∧ w0.cell? ⟨w.heap.size + 1, 9, none⟩ = some (.bool y') := by
  rw [hw0]; exact ⟨cellA _ (by simp), cellA _ (by simp), cellA _ (by simp), cellA _ (by simp), cellA _ (by simp), cellA _ (by simp), cellA _ (by simp), cellA _ (by simp), cellA _ (by simp), cellA _ (by simp), by simp, by simp, by simp, by simp, by simp, by simp, by simp, by simp, by simp, by simp⟩
 have gB := g0.size
 have H1 := Lib.hid (tsame_any s q rs ws A1 c1 A2 c2 s' q' rs' ws' A1' c1' A2' c2' w0 B (by omega) (ok.below g0 hB) (ok'.below g0 hB))
 clear ok ok'
 generalize rs.length = n1 at *
 generalize rs'.length = n1' at *
 generalize ws.length = n2 at *
 generalize ws'.length = n2' at *
 go_enter Tryz.func52, Tryz.ntmps52
 go_upto_region 1 with fail
 rw [← hw0]
 clear hw0
 have hI := fun z => run_eqId i j i' j' z
 have HR1 : Hid (¬ k = k' → false = p) := by show _ → _; intro h; rw [HP.out, decide_eq_false]; exact fun e => h e.1
 have HR2 : Hid (decide (i = i' ∧ j = j') = false → false = p) := by show _ → _; intro h; rw [HP.out, decide_eq_false]; exact fun e => of_decide_eq_false h e.2.1
 have HR3 : Hid (¬ g = g' → false = p) := by show _ → _; intro h; rw [HP.out, decide_eq_false]; exact fun e => h e.2.2.1
 have HR4 : Hid (¬ st = st' → false = p) := by show _ → _; intro h; rw [HP.out, decide_eq_false]; exact fun e => h e.2.2.2.1
 have HR5 : Hid (¬ y = y' → false = p) := by show _ → _; intro h; rw [HP.out, decide_eq_false]; exact fun e => h e.2.2.2.2.1
 have HR6 : Hid (k = k' → decide (i = i' ∧ j = j') = true → g = g' → st = st' → y = y' → decide (s = s' ∧ q = q' ∧ rs = rs' ∧ ws = ws') = p) := by
  show _ → _
  intro h1 h2 h3 h4 h5
  rw [HP.out]
  have := of_decide_eq_true h2
  simp [h1, this.1, this.2, h3, h4, h5]
 clear HP
 by_cases hk : k = k'
 ·have dk : (k == k') = true := by simp [hk]
  cases hd : decide (i = i' ∧ j = j') with
  | false =>
    rw [hd] at hI HR2
    have HR := Lib.hid (HR2.out rfl)
    clear hd hk HR1 HR2 HR3 HR4 HR5 HR6
    go_wp2_with fail
    go_ret
    exact ⟨ret_bool HR.out, g0⟩
  | true =>
    rw [hd] at hI HR6
    by_cases hg : g = g'
    ·have dg : (g == g') = true := by simp [hg]
     by_cases hst : st = st'
     ·have dst : ((st : Int) == (st' : Int)) = true := by simp [hst]
      by_cases hy : y = y'
      ·have dy : (y == y') = true := by simp [hy]
       have HR := Lib.hid (HR6.out hk rfl hg hst hy)
       clear hd hk hg hst hy HR1 HR2 HR3 HR4 HR5 HR6
       go_wp2_with fail
       refine H1.out.mono ?_
       rintro e w1 ⟨rfl, b1⟩
       clear H1
       generalize decide (s = s' ∧ q = q' ∧ rs = rs' ∧ ws = ws') = r at *
       go_wp2_with fail
       go_ret
       exact ⟨ret_bool (by rw [← HR.out]), g0.trans (b1.mono gB)⟩
      ·have dy : (y == y') = false := by simp [hy]
       have HR := Lib.hid (HR5.out hy)
       clear hd hk hg hst hy HR1 HR2 HR3 HR4 HR5 HR6
       go_wp2_with fail
       go_ret
       exact ⟨ret_bool HR.out, g0⟩
     ·have dst : ((st : Int) == (st' : Int)) = false := by simp; omega
      have HR := Lib.hid (HR4.out hst)
      clear hd hk hg hst HR1 HR2 HR3 HR4 HR5 HR6
      go_wp2_with fail
      go_ret
      exact ⟨ret_bool HR.out, g0⟩
    ·have dg : (g == g') = false := by simp [hg]
     have HR := Lib.hid (HR3.out hg)
     clear hd hk hg HR1 HR2 HR3 HR4 HR5 HR6
     go_wp2_with fail
     go_ret
     exact ⟨ret_bool HR.out, g0⟩
 ·have dk : (k == k') = false := by simp [hk]
  have HR := Lib.hid (HR1.out hk)
  clear hk HR1 HR2 HR3 HR4 HR5 HR6
  go_wp2_with fail
  go_ret
  exact ⟨ret_bool HR.out, g0⟩
end Go.Proofs.YtjofjpmhokjhnaaGreatDoor
namespace Go.Proofs.YtjofjpmhokjhnaaGreatDoor
set_option maxRecDepth 20001
open Go.RowKit T
set_option maxHeartbeats 6400000 in
theorem cf0 (s q : Int) (rs : List Rd1) (ws : List Wr1) (A1 : Option Addr) (c1 : Nat) (A2 : Option Addr) (c2 : Nat) (i j g : Int) (st : Nat) (y : Bool) (w : World) (B : Nat) (hB : B ≤ w.heap.size) (ok : TxOk w B rs ws A1 c1 A2 c2) (hT : Tabs w) :
 Calls Tryz.prog 48 #[.agg #[.int .i64 0, .int .i64 s, .int .i64 q, .slice A1 rs.length c1, .slice A2 ws.length c2, .int .i64 i, .int .i64 j, .int .i64 g, .int .u64 (st : Int), .bool y]] w fun e w' => e = .returned (.bool (T.cformed 0 s q rs ws i j g st y)) ∧ Below w.heap.size w w' := by
 obtain ⟨p, hp⟩ : ∃ p : Bool, p = (T.cformed 0 s q rs ws i j g st y) := ⟨_, rfl⟩
 have HP := Lib.hid hp
 rw [← hp]
 clear hp
 obtain ⟨w0, hw0⟩ : ∃ w0, w0 = w.alloc (.cells #[.int .i64 0, .int .i64 s, .int .i64 q, .slice A1 rs.length c1, .slice A2 ws.length c2, .int .i64 i, .int .i64 j, .int .i64 g, .int .u64 (st : Int), .bool y] 33) := ⟨_, rfl⟩
 have g0 : Below w.heap.size w w0 := by rw [hw0]; exact (Below.refl _ _).alloc (Nat.le_refl _) _
 obtain ⟨a0, a1, a2, a3, a4, a5, a6, a7, a8, a9⟩ : w0.cell? ⟨w.heap.size, 0, none⟩ = some (.int .i64 0) ∧ w0.cell? ⟨w.heap.size, 1, none⟩ = some (.int .i64 s) ∧ w0.cell? ⟨w.heap.size, 2, none⟩ = some (.int .i64 q) ∧ w0.cell? ⟨w.heap.size, 3, none⟩ = some (.slice A1 rs.length c1) ∧ w0.cell? ⟨w.heap.size, 4, none⟩ = some (.slice A2 ws.length c2) ∧ w0.cell? ⟨w.heap.size, 5, none⟩ = some (.int .i64 i) ∧ w0.cell? ⟨w.heap.size, 6, none⟩ = some (.int .i64 j) ∧ w0.cell? ⟨w.heap.size, 7, none⟩ = some (.int .i64 g) ∧ w0.cell? ⟨w.heap.size, 8, none⟩ = some (.int .u64 (st : Int)) ∧ w0.cell? ⟨w.heap.size, 9, none⟩ = some (.bool y) := by
  rw [hw0]; exact ⟨by simp, by simp, by simp, by simp, by simp, by simp, by simp, by simp, by simp, by simp⟩
 have gB := g0.size
 have HO := Lib.hid (ok.below g0 hB)
 have HT := Lib.hid (hT.below g0)
 clear hT
 clear ok
 have H1 := Lib.hid (csame_any 0 s q rs ws A1 c1 A2 c2 i j g st y 0 0 0 [] [] none 0 none 0 0 0 0 0 false w0 B (by omega) HO.out TxOk.zero)
 have HQ : Hid (decide ((0 : Int) = 0 ∧ (i = 0 ∧ j = 0) ∧ g = 0 ∧ st = 0 ∧ y = false ∧ s = 0 ∧ q = 0 ∧ rs = [] ∧ ws = []) = p) := by
  show _ = _
  rw [HP.out]; unfold T.cformed; rw [if_pos rfl]
  apply decide_eq_decide.2
  exact ⟨fun ⟨_, ⟨h1, h2⟩, h3, h4, h5, h6, h7, h8, h9⟩ => ⟨h6, h7, h8, h9, h1, h2, h3, h4, h5⟩, fun ⟨h6, h7, h8, h9, h1, h2, h3, h4, h5⟩ => ⟨rfl, ⟨h1, h2⟩, h3, h4, h5, h6, h7, h8, h9⟩⟩
 clear HP
 generalize decide ((0 : Int) = 0 ∧ (i = 0 ∧ j = 0) ∧ g = 0 ∧ st = 0 ∧ y = false ∧ s = 0 ∧ q = 0 ∧ rs = [] ∧ ws = []) = r at *
 simp only [List.length_nil] at H1
 generalize rs.length = n1 at *
 generalize ws.length = n2 at *
 go_enter Tryz.func48, Tryz.ntmps48
 go_upto_region 1 with fail
 rw [← hw0]
 clear hw0
 go_wp2_with fail
 refine H1.out.mono ?_
 rintro e w1 ⟨rfl, b1⟩
 clear H1
 go_wp2_with fail
 go_ret
 exact ⟨ret_bool HQ.out, g0.trans (b1.mono gB)⟩
set_option maxHeartbeats 6400000 in
theorem cf1 (s q : Int) (rs : List Rd1) (ws : List Wr1) (A1 : Option Addr) (c1 : Nat) (A2 : Option Addr) (c2 : Nat) (i j g : Int) (st : Nat) (y : Bool) (w : World) (B : Nat) (hB : B ≤ w.heap.size) (ok : TxOk w B rs ws A1 c1 A2 c2) (hT : Tabs w) :
 Calls Tryz.prog 48 #[.agg #[.int .i64 1, .int .i64 s, .int .i64 q, .slice A1 rs.length c1, .slice A2 ws.length c2, .int .i64 i, .int .i64 j, .int .i64 g, .int .u64 (st : Int), .bool y]] w fun e w' => e = .returned (.bool (T.cformed 1 s q rs ws i j g st y)) ∧ Below w.heap.size w w' := by
 obtain ⟨p, hp⟩ : ∃ p : Bool, p = (T.cformed 1 s q rs ws i j g st y) := ⟨_, rfl⟩
 have HP := Lib.hid hp
 rw [← hp]
 clear hp
 obtain ⟨w0, hw0⟩ : ∃ w0, w0 = w.alloc (.cells #[.int .i64 1, .int .i64 s, .int .i64 q, .slice A1 rs.length c1, .slice A2 ws.length c2, .int .i64 i, .int .i64 j, .int .i64 g, .int .u64 (st : Int), .bool y] 33) := ⟨_, rfl⟩
 have g0 : Below w.heap.size w w0 := by rw [hw0]; exact (Below.refl _ _).alloc (Nat.le_refl _) _
 obtain ⟨a0, a1, a2, a3, a4, a5, a6, a7, a8, a9⟩ : w0.cell? ⟨w.heap.size, 0, none⟩ = some (.int .i64 1) ∧ w0.cell? ⟨w.heap.size, 1, none⟩ = some (.int .i64 s) ∧ w0.cell? ⟨w.heap.size, 2, none⟩ = some (.int .i64 q) ∧ w0.cell? ⟨w.heap.size, 3, none⟩ = some (.slice A1 rs.length c1) ∧ w0.cell? ⟨w.heap.size, 4, none⟩ = some (.slice A2 ws.length c2) ∧ w0.cell? ⟨w.heap.size, 5, none⟩ = some (.int .i64 i) ∧ w0.cell? ⟨w.heap.size, 6, none⟩ = some (.int .i64 j) ∧ w0.cell? ⟨w.heap.size, 7, none⟩ = some (.int .i64 g) ∧ w0.cell? ⟨w.heap.size, 8, none⟩ = some (.int .u64 (st : Int)) ∧ w0.cell? ⟨w.heap.size, 9, none⟩ = some (.bool y) := by
  rw [hw0]; exact ⟨by simp, by simp, by simp, by simp, by simp, by simp, by simp, by simp, by simp, by simp⟩
 have gB := g0.size
 have HO := Lib.hid (ok.below g0 hB)
 have HT := Lib.hid (hT.below g0)
 clear hT
 clear ok
 have H0 := Lib.hid (tformed_any s q rs ws A1 c1 A2 c2 w0 B (by omega) HO.out HT.out)
 have H1 := Lib.hid (fun z (hz : Below w0.heap.size w0 z) => csame_any 1 s q rs ws A1 c1 A2 c2 i j g st y 1 s q rs ws A1 c1 A2 c2 0 0 0 0 false z B (by have := hz.size; omega) (HO.out.below hz (by omega)) (HO.out.below hz (by omega)))
 have HQ : Hid (T.formed s q rs ws = false → false = p) := by show _ → _; intro h; rw [HP.out]; unfold T.cformed; rw [if_neg (by omega), if_pos rfl, h]; rfl
 have HQ2 : Hid (T.formed s q rs ws = true → decide ((1 : Int) = 1 ∧ (i = 0 ∧ j = 0) ∧ g = 0 ∧ st = 0 ∧ y = false ∧ s = s ∧ q = q ∧ rs = rs ∧ ws = ws) = p) := by
  show _ → _
  intro h
  rw [HP.out]; unfold T.cformed; rw [if_neg (by omega), if_pos rfl, h, Bool.true_and]
  apply decide_eq_decide.2
  exact ⟨fun ⟨_, ⟨h1, h2⟩, h3, h4, h5, _⟩ => ⟨h1, h2, h3, h4, h5⟩, fun ⟨h1, h2, h3, h4, h5⟩ => ⟨rfl, ⟨h1, h2⟩, h3, h4, h5, rfl, rfl, rfl, rfl⟩⟩
 clear HP
 generalize T.formed s q rs ws = r0 at *
 generalize decide ((1 : Int) = 1 ∧ (i = 0 ∧ j = 0) ∧ g = 0 ∧ st = 0 ∧ y = false ∧ s = s ∧ q = q ∧ rs = rs ∧ ws = ws) = r1 at *
 generalize rs.length = n1 at *
 generalize ws.length = n2 at *
 go_enter Tryz.func48, Tryz.ntmps48
 go_upto_region 1 with fail
 rw [← hw0]
 clear hw0
 go_wp2_with fail
 refine H0.out.mono ?_
 rintro e w1 ⟨rfl, b1⟩
 clear H0
 have a0 := cellB b1 a0
 have a1 := cellB b1 a1
 have a2 := cellB b1 a2
 have a3 := cellB b1 a3
 have a4 := cellB b1 a4
 have a5 := cellB b1 a5
 have a6 := cellB b1 a6
 have a7 := cellB b1 a7
 have a8 := cellB b1 a8
 have a9 := cellB b1 a9
 have e1 := g0.trans (b1.mono gB)
 cases r0 with
 | false =>
   have HR := Lib.hid (HQ.out rfl)
   clear HQ HQ2
   go_wp2_with fail
   go_ret
   exact ⟨ret_bool HR.out, e1⟩
 | true =>
   have HR := Lib.hid (HQ2.out rfl)
   clear HQ HQ2
   go_wp2_with fail
   refine (H1.out w1 b1).mono ?_
   rintro e w2 ⟨rfl, b2⟩
   clear H1
   go_wp2_with fail
   go_ret
   exact ⟨ret_bool HR.out, e1.trans (b2.mono (by have := b1.size; omega))⟩
set_option maxHeartbeats 6400000 in
theorem cf2 (s q : Int) (rs : List Rd1) (ws : List Wr1) (A1 : Option Addr) (c1 : Nat) (A2 : Option Addr) (c2 : Nat) (i j g : Int) (st : Nat) (y : Bool) (w : World) (B : Nat) (hB : B ≤ w.heap.size) (ok : TxOk w B rs ws A1 c1 A2 c2) (hT : Tabs w) :
 Calls Tryz.prog 48 #[.agg #[.int .i64 2, .int .i64 s, .int .i64 q, .slice A1 rs.length c1, .slice A2 ws.length c2, .int .i64 i, .int .i64 j, .int .i64 g, .int .u64 (st : Int), .bool y]] w fun e w' => e = .returned (.bool (T.cformed 2 s q rs ws i j g st y)) ∧ Below w.heap.size w w' := by
 obtain ⟨p, hp⟩ : ∃ p : Bool, p = (T.cformed 2 s q rs ws i j g st y) := ⟨_, rfl⟩
 have HP := Lib.hid hp
 rw [← hp]
 clear hp
 obtain ⟨w0, hw0⟩ : ∃ w0, w0 = w.alloc (.cells #[.int .i64 2, .int .i64 s, .int .i64 q, .slice A1 rs.length c1, .slice A2 ws.length c2, .int .i64 i, .int .i64 j, .int .i64 g, .int .u64 (st : Int), .bool y] 33) := ⟨_, rfl⟩
 have g0 : Below w.heap.size w w0 := by rw [hw0]; exact (Below.refl _ _).alloc (Nat.le_refl _) _
 obtain ⟨a0, a1, a2, a3, a4, a5, a6, a7, a8, a9⟩ : w0.cell? ⟨w.heap.size, 0, none⟩ = some (.int .i64 2) ∧ w0.cell? ⟨w.heap.size, 1, none⟩ = some (.int .i64 s) ∧ w0.cell? ⟨w.heap.size, 2, none⟩ = some (.int .i64 q) ∧ w0.cell? ⟨w.heap.size, 3, none⟩ = some (.slice A1 rs.length c1) ∧ w0.cell? ⟨w.heap.size, 4, none⟩ = some (.slice A2 ws.length c2) ∧ w0.cell? ⟨w.heap.size, 5, none⟩ = some (.int .i64 i) ∧ w0.cell? ⟨w.heap.size, 6, none⟩ = some (.int .i64 j) ∧ w0.cell? ⟨w.heap.size, 7, none⟩ = some (.int .i64 g) ∧ w0.cell? ⟨w.heap.size, 8, none⟩ = some (.int .u64 (st : Int)) ∧ w0.cell? ⟨w.heap.size, 9, none⟩ = some (.bool y) := by
  rw [hw0]; exact ⟨by simp, by simp, by simp, by simp, by simp, by simp, by simp, by simp, by simp, by simp⟩
 have gB := g0.size
 have HO := Lib.hid (ok.below g0 hB)
 have HT := Lib.hid (hT.below g0)
 clear hT
 clear ok
 have H0 := Lib.hid (tid_any i j w0)
 have H1 := Lib.hid (fun z (hz : Below w0.heap.size w0 z) => csame_any 2 s q rs ws A1 c1 A2 c2 i j g st y 2 0 0 [] [] none 0 none 0 i j g st false z B (by have := hz.size; omega) (HO.out.below hz (by omega)) TxOk.zero)
 have HG := Lib.hid (fun z => cgroup_any g z)
 have HQ : Hid (¬ (idb i j = true ∧ 1 ≤ st ∧ st < 9223372036854775808 ∧ decide (0 ≤ g ∧ g < 4) = true) → false = p) := by
  show _ → _; intro h; rw [HP.out]; unfold T.cformed; rw [if_neg (by omega), if_neg (by omega), if_pos rfl]
  symm
  rw [Bool.and_eq_false_iff, Bool.and_eq_false_iff]
  by_cases hi : idb i j = true
  ·right
   apply decide_eq_false
   exact fun e => h ⟨hi, e.2.2.1, e.2.2.2, decide_eq_true ⟨e.1, e.2.1⟩⟩
  ·left; right; simpa using hi
 have HQ2 : Hid (idb i j = true → 1 ≤ st → st < 9223372036854775808 → decide (0 ≤ g ∧ g < 4) = true → decide ((2 : Int) = 2 ∧ (i = i ∧ j = j) ∧ g = g ∧ st = st ∧ y = false ∧ s = 0 ∧ q = 0 ∧ rs = [] ∧ ws = []) = p) := by
  show _ → _
  intro h1 h2 h3 h4
  rw [HP.out]; unfold T.cformed; rw [if_neg (by omega), if_neg (by omega), if_pos rfl, h1, Bool.and_true]
  have h4 := of_decide_eq_true h4
  rw [decide_eq_true (show 0 ≤ g ∧ g < 4 ∧ 1 ≤ st ∧ st < 9223372036854775808 from ⟨h4.1, h4.2, h2, h3⟩), Bool.and_true]
  apply decide_eq_decide.2
  exact ⟨fun ⟨_, _, _, _, h5, h6, h7, h8, h9⟩ => ⟨h6, h7, h8, h9, h5⟩, fun ⟨h6, h7, h8, h9, h5⟩ => ⟨rfl, ⟨rfl, rfl⟩, rfl, rfl, h5, h6, h7, h8, h9⟩⟩
 clear HP
 generalize decide ((2 : Int) = 2 ∧ (i = i ∧ j = j) ∧ g = g ∧ st = st ∧ y = false ∧ s = 0 ∧ q = 0 ∧ rs = [] ∧ ws = []) = r1 at *
 simp only [List.length_nil] at H1
 generalize rs.length = n1 at *
 generalize ws.length = n2 at *
 go_enter Tryz.func48, Tryz.ntmps48
 go_upto_region 1 with fail
 rw [← hw0]
 clear hw0
 go_wp2_with fail
 refine H0.out.mono ?_
 rintro e w1 ⟨rfl, b1⟩
 clear H0
 have a0 := cellB b1 a0
 have a1 := cellB b1 a1
 have a2 := cellB b1 a2
 have a3 := cellB b1 a3
 have a4 := cellB b1 a4
 have a5 := cellB b1 a5
 have a6 := cellB b1 a6
 have a7 := cellB b1 a7
 have a8 := cellB b1 a8
 have a9 := cellB b1 a9
 have e1 := g0.trans (b1.mono gB)
 cases hid : idb i j with
 | false =>
   have HR := Lib.hid (HQ.out fun h => by rw [hid] at h; exact Bool.noConfusion h.1)
   clear HQ HQ2 hid
   go_wp2_with fail
   go_ret
   exact ⟨ret_bool HR.out, e1⟩
 | true =>
   by_cases h1 : 1 ≤ st
   ·have d1 : decide (1 ≤ (st : Int)) = true := by simp; omega
    by_cases h2 : st < 9223372036854775808
    ·have d2 : decide ((st : Int) < 9223372036854775808) = true := by simp; omega
     cases hg : decide (0 ≤ g ∧ g < 4) with
     | false =>
       have HR := Lib.hid (HQ.out fun h => by rw [hg] at h; exact Bool.noConfusion h.2.2.2)
       rw [hg] at HG
       clear HQ HQ2 hid hg
       go_wp2_with fail
       refine (HG.out w1).mono ?_
       rintro e w' ⟨rfl, rfl⟩
       go_wp2_with fail
       go_ret
       exact ⟨ret_bool HR.out, e1⟩
     | true =>
       have HR := Lib.hid (HQ2.out hid h1 h2 hg)
       rw [hg] at HG
       clear HQ HQ2 hid hg
       go_wp2_with fail
       refine (HG.out w1).mono ?_
       rintro e w' ⟨rfl, rfl⟩
       go_wp2_with fail
       refine (H1.out w1 b1).mono ?_
       rintro e w2 ⟨rfl, b2⟩
       clear H1
       go_wp2_with fail
       go_ret
       exact ⟨ret_bool HR.out, e1.trans (b2.mono (by have := b1.size; omega))⟩
    ·have d2 : decide ((st : Int) < 9223372036854775808) = false := by simp; omega
     have HR := Lib.hid (HQ.out fun h => h2 h.2.2.1)
     clear HQ HQ2 hid
     go_wp2_with fail
     go_ret
     exact ⟨ret_bool HR.out, e1⟩
   ·have d1 : decide (1 ≤ (st : Int)) = false := by simp; omega
    have HR := Lib.hid (HQ.out fun h => h1 h.2.1)
    clear HQ HQ2 hid
    go_wp2_with fail
    go_ret
    exact ⟨ret_bool HR.out, e1⟩
set_option maxHeartbeats 6400000 in
theorem cf3 (s q : Int) (rs : List Rd1) (ws : List Wr1) (A1 : Option Addr) (c1 : Nat) (A2 : Option Addr) (c2 : Nat) (i j g : Int) (st : Nat) (y : Bool) (w : World) (B : Nat) (hB : B ≤ w.heap.size) (ok : TxOk w B rs ws A1 c1 A2 c2) (hT : Tabs w) :
 Calls Tryz.prog 48 #[.agg #[.int .i64 3, .int .i64 s, .int .i64 q, .slice A1 rs.length c1, .slice A2 ws.length c2, .int .i64 i, .int .i64 j, .int .i64 g, .int .u64 (st : Int), .bool y]] w fun e w' => e = .returned (.bool (T.cformed 3 s q rs ws i j g st y)) ∧ Below w.heap.size w w' := by
 obtain ⟨p, hp⟩ : ∃ p : Bool, p = (T.cformed 3 s q rs ws i j g st y) := ⟨_, rfl⟩
 have HP := Lib.hid hp
 rw [← hp]
 clear hp
 obtain ⟨w0, hw0⟩ : ∃ w0, w0 = w.alloc (.cells #[.int .i64 3, .int .i64 s, .int .i64 q, .slice A1 rs.length c1, .slice A2 ws.length c2, .int .i64 i, .int .i64 j, .int .i64 g, .int .u64 (st : Int), .bool y] 33) := ⟨_, rfl⟩
 have g0 : Below w.heap.size w w0 := by rw [hw0]; exact (Below.refl _ _).alloc (Nat.le_refl _) _
 obtain ⟨a0, a1, a2, a3, a4, a5, a6, a7, a8, a9⟩ : w0.cell? ⟨w.heap.size, 0, none⟩ = some (.int .i64 3) ∧ w0.cell? ⟨w.heap.size, 1, none⟩ = some (.int .i64 s) ∧ w0.cell? ⟨w.heap.size, 2, none⟩ = some (.int .i64 q) ∧ w0.cell? ⟨w.heap.size, 3, none⟩ = some (.slice A1 rs.length c1) ∧ w0.cell? ⟨w.heap.size, 4, none⟩ = some (.slice A2 ws.length c2) ∧ w0.cell? ⟨w.heap.size, 5, none⟩ = some (.int .i64 i) ∧ w0.cell? ⟨w.heap.size, 6, none⟩ = some (.int .i64 j) ∧ w0.cell? ⟨w.heap.size, 7, none⟩ = some (.int .i64 g) ∧ w0.cell? ⟨w.heap.size, 8, none⟩ = some (.int .u64 (st : Int)) ∧ w0.cell? ⟨w.heap.size, 9, none⟩ = some (.bool y) := by
  rw [hw0]; exact ⟨by simp, by simp, by simp, by simp, by simp, by simp, by simp, by simp, by simp, by simp⟩
 have gB := g0.size
 have HO := Lib.hid (ok.below g0 hB)
 have HT := Lib.hid (hT.below g0)
 clear hT
 clear ok
 have H0 := Lib.hid (tid_any i j w0)
 have H1 := Lib.hid (fun z (hz : Below w0.heap.size w0 z) => csame_any 3 s q rs ws A1 c1 A2 c2 i j g st y 3 0 0 [] [] none 0 none 0 i j g 0 y z B (by have := hz.size; omega) (HO.out.below hz (by omega)) TxOk.zero)
 have HG := Lib.hid (fun z => cgroup_any g z)
 have HQ : Hid (¬ (idb i j = true ∧ decide (0 ≤ g ∧ g < 4) = true) → false = p) := by
  show _ → _; intro h; rw [HP.out]; unfold T.cformed; rw [if_neg (by omega), if_neg (by omega), if_neg (by omega), if_pos rfl]
  symm
  rw [Bool.and_eq_false_iff, Bool.and_eq_false_iff]
  by_cases hi : idb i j = true
  ·right
   cases hg : decide (0 ≤ g ∧ g < 4) with
   | false => rfl
   | true => exact absurd ⟨hi, hg⟩ h
  ·left; right; simpa using hi
 have HQ2 : Hid (idb i j = true → decide (0 ≤ g ∧ g < 4) = true → decide ((3 : Int) = 3 ∧ (i = i ∧ j = j) ∧ g = g ∧ st = 0 ∧ y = y ∧ s = 0 ∧ q = 0 ∧ rs = [] ∧ ws = []) = p) := by
  show _ → _
  intro h1 h4
  rw [HP.out]; unfold T.cformed; rw [if_neg (by omega), if_neg (by omega), if_neg (by omega), if_pos rfl, h1, Bool.and_true, h4, Bool.and_true]
  apply decide_eq_decide.2
  exact ⟨fun ⟨_, _, _, h5, _, h6, h7, h8, h9⟩ => ⟨h6, h7, h8, h9, h5⟩, fun ⟨h6, h7, h8, h9, h5⟩ => ⟨rfl, ⟨rfl, rfl⟩, rfl, h5, rfl, h6, h7, h8, h9⟩⟩
 clear HP
 generalize decide ((3 : Int) = 3 ∧ (i = i ∧ j = j) ∧ g = g ∧ st = 0 ∧ y = y ∧ s = 0 ∧ q = 0 ∧ rs = [] ∧ ws = []) = r1 at *
 simp only [List.length_nil] at H1
 generalize rs.length = n1 at *
 generalize ws.length = n2 at *
 go_enter Tryz.func48, Tryz.ntmps48
 go_upto_region 1 with fail
 rw [← hw0]
 clear hw0
 go_wp2_with fail
 refine H0.out.mono ?_
 rintro e w1 ⟨rfl, b1⟩
 clear H0
 have a0 := cellB b1 a0
 have a1 := cellB b1 a1
 have a2 := cellB b1 a2
 have a3 := cellB b1 a3
 have a4 := cellB b1 a4
 have a5 := cellB b1 a5
 have a6 := cellB b1 a6
 have a7 := cellB b1 a7
 have a8 := cellB b1 a8
 have a9 := cellB b1 a9
 have e1 := g0.trans (b1.mono gB)
 cases hid : idb i j with
 | false =>
   have HR := Lib.hid (HQ.out fun h => by rw [hid] at h; exact Bool.noConfusion h.1)
   clear HQ HQ2 hid
   go_wp2_with fail
   go_ret
   exact ⟨ret_bool HR.out, e1⟩
 | true =>
   cases hg : decide (0 ≤ g ∧ g < 4) with
   | false =>
     have HR := Lib.hid (HQ.out fun h => by rw [hg] at h; exact Bool.noConfusion h.2)
     rw [hg] at HG
     clear HQ HQ2 hid hg
     go_wp2_with fail
     refine (HG.out w1).mono ?_
     rintro e w' ⟨rfl, rfl⟩
     go_wp2_with fail
     go_ret
     exact ⟨ret_bool HR.out, e1⟩
   | true =>
     have HR := Lib.hid (HQ2.out hid hg)
     rw [hg] at HG
     clear HQ HQ2 hid hg
     go_wp2_with fail
     refine (HG.out w1).mono ?_
     rintro e w' ⟨rfl, rfl⟩
     go_wp2_with fail
     refine (H1.out w1 b1).mono ?_
     rintro e w2 ⟨rfl, b2⟩
     clear H1
     go_wp2_with fail
     go_ret
     exact ⟨ret_bool HR.out, e1.trans (b2.mono (by have := b1.size; omega))⟩
set_option maxHeartbeats 6400000 in
theorem cf4 (k : Int) (k0 : ¬ k = 0) (k1 : ¬ k = 1) (k2 : ¬ k = 2) (k3 : ¬ k = 3) (s q : Int) (rs : List Rd1) (ws : List Wr1) (A1 : Option Addr) (c1 : Nat) (A2 : Option Addr) (c2 : Nat) (i j g : Int) (st : Nat) (y : Bool) (w : World) (B : Nat) (hB : B ≤ w.heap.size) (ok : TxOk w B rs ws A1 c1 A2 c2) (hT : Tabs w) :
 Calls Tryz.prog 48 #[.agg #[.int .i64 k, .int .i64 s, .int .i64 q, .slice A1 rs.length c1, .slice A2 ws.length c2, .int .i64 i, .int .i64 j, .int .i64 g, .int .u64 (st : Int), .bool y]] w fun e w' => e = .returned (.bool (T.cformed k s q rs ws i j g st y)) ∧ Below w.heap.size w w' := by
 obtain ⟨p, hp⟩ : ∃ p : Bool, p = (T.cformed k s q rs ws i j g st y) := ⟨_, rfl⟩
 have HP := Lib.hid hp
 rw [← hp]
 clear hp
 obtain ⟨w0, hw0⟩ : ∃ w0, w0 = w.alloc (.cells #[.int .i64 k, .int .i64 s, .int .i64 q, .slice A1 rs.length c1, .slice A2 ws.length c2, .int .i64 i, .int .i64 j, .int .i64 g, .int .u64 (st : Int), .bool y] 33) := ⟨_, rfl⟩
 have g0 : Below w.heap.size w w0 := by rw [hw0]; exact (Below.refl _ _).alloc (Nat.le_refl _) _
 obtain ⟨a0, a1, a2, a3, a4, a5, a6, a7, a8, a9⟩ : w0.cell? ⟨w.heap.size, 0, none⟩ = some (.int .i64 k) ∧ w0.cell? ⟨w.heap.size, 1, none⟩ = some (.int .i64 s) ∧ w0.cell? ⟨w.heap.size, 2, none⟩ = some (.int .i64 q) ∧ w0.cell? ⟨w.heap.size, 3, none⟩ = some (.slice A1 rs.length c1) ∧ w0.cell? ⟨w.heap.size, 4, none⟩ = some (.slice A2 ws.length c2) ∧ w0.cell? ⟨w.heap.size, 5, none⟩ = some (.int .i64 i) ∧ w0.cell? ⟨w.heap.size, 6, none⟩ = some (.int .i64 j) ∧ w0.cell? ⟨w.heap.size, 7, none⟩ = some (.int .i64 g) ∧ w0.cell? ⟨w.heap.size, 8, none⟩ = some (.int .u64 (st : Int)) ∧ w0.cell? ⟨w.heap.size, 9, none⟩ = some (.bool y) := by
  rw [hw0]; exact ⟨by simp, by simp, by simp, by simp, by simp, by simp, by simp, by simp, by simp, by simp⟩
 have gB := g0.size
 have HO := Lib.hid (ok.below g0 hB)
 have HT := Lib.hid (hT.below g0)
 clear hT
 clear ok
 have HR : Hid (false = p) := by show _ = _; rw [HP.out]; unfold T.cformed; rw [if_neg k0, if_neg k1, if_neg k2, if_neg k3]
 generalize rs.length = n1 at *
 generalize ws.length = n2 at *
 go_enter Tryz.func48, Tryz.ntmps48
 go_upto_region 1 with fail
 rw [← hw0]
 clear hw0
 go_wp2_with fail
 go_ret
 exact ⟨ret_bool HR.out, g0⟩
theorem cformed_any (k : Int) (s q : Int) (rs : List Rd1) (ws : List Wr1) (A1 : Option Addr) (c1 : Nat) (A2 : Option Addr) (c2 : Nat) (i j g : Int) (st : Nat) (y : Bool) (w : World) (B : Nat) (hB : B ≤ w.heap.size) (ok : TxOk w B rs ws A1 c1 A2 c2) (hT : Tabs w) :
 Calls Tryz.prog 48 #[.agg #[.int .i64 k, .int .i64 s, .int .i64 q, .slice A1 rs.length c1, .slice A2 ws.length c2, .int .i64 i, .int .i64 j, .int .i64 g, .int .u64 (st : Int), .bool y]] w fun e w' => e = .returned (.bool (T.cformed k s q rs ws i j g st y)) ∧ Below w.heap.size w w' := by
 by_cases k0 : k = 0
 ·subst k0; exact cf0 s q rs ws A1 c1 A2 c2 i j g st y w B hB ok hT
 ·by_cases k1 : k = 1
  ·subst k1; exact cf1 s q rs ws A1 c1 A2 c2 i j g st y w B hB ok hT
  ·by_cases k2 : k = 2
   ·subst k2; exact cf2 s q rs ws A1 c1 A2 c2 i j g st y w B hB ok hT
   ·by_cases k3 : k = 3
    ·subst k3; exact cf3 s q rs ws A1 c1 A2 c2 i j g st y w B hB ok hT
    ·exact cf4 k k0 k1 k2 k3 s q rs ws A1 c1 A2 c2 i j g st y w B hB ok hT
end Go.Proofs.YtjofjpmhokjhnaaGreatDoor
namespace Go.Proofs.YtjofjpmhokjhnaaGreatDoor
set_option maxRecDepth 20001
open Go.RowKit T
namespace T
def Ms.fit (m : Ms) : Bool := !decide (fieldsOf m.kd = []) && m.only.same m && !decide (m.sl < 0) && !decide (1000000 < m.sl) && !decide (m.nu < 0) && !decide (2147483647 < m.nu) && !decide (m.g < 0) && !decide (4 ≤ m.g) && !decide (m.er < 0) && !decide (11 < m.er) && !decide (59900 < (m.dt.length : Int))
def Ms.sound (m : Ms) : Bool := !(decide ((66 : UInt8) ∈ fieldsOf m.kd) && !B.formed m.bn) && !(m.ha && !B.formed m.vn) && !((decide ((67 : UInt8) ∈ fieldsOf m.kd) || m.ha) && !m.c.formed) && !(decide ((84 : UInt8) ∈ fieldsOf m.kd) && !T.formed m.t.s m.t.q m.t.rs m.t.ws) && !(decide ((73 : UInt8) ∈ fieldsOf m.kd) && !T.idb m.ii m.ij) && V.formed m.vk m.vb m.vt.data.toList && !(decide ((75 : UInt8) ∈ fieldsOf m.kd) && !V.key m.ky.data.toList && (!decide (m.ky.data.toList = []) || !decide (m.kd = 13)))
def Ms.formed (m : Ms) : Bool := m.fit && m.sound
end T
end Go.Proofs.YtjofjpmhokjhnaaGreatDoor
