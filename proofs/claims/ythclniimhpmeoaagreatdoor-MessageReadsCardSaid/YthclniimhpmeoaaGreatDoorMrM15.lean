import Derived.Test.YthclniimhpmeoaaGreatDoorMrM14
import Derived.Test.YthclniimhpmeoaaGreatDoorMrM12
set_option maxHeartbeats 6400000
set_option maxRecDepth 20001
set_option linter.unusedSimpArgs false
set_option linter.unusedVariables false
namespace Go.Proofs.YthclniimhpmeoaaGreatDoor
set_option maxRecDepth 20000
section
open Go.RowKit T
theorem cf0 (s q : Int) (rs : List Rd1) (ws : List Wr1) (A1 : Option Addr) (c1 : Nat) (A2 : Option Addr) (c2 : Nat) (i j g : Int) (st : Nat) (y : Bool) (w : World) (B : Nat) (hB : B ≤ w.heap.size) (ok : TxOk w B rs ws A1 c1 A2 c2) (hT : Tabs w) :
 Calls Tryz.prog 48 #[.agg #[.int .i64 0, .int .i64 s, .int .i64 q, .slice A1 rs.length c1, .slice A2 ws.length c2, .int .i64 i, .int .i64 j, .int .i64 g, .int .u64 (st : Int), .bool y]] w fun e w' => e = .returned (.bool (T.cformed 0 s q rs ws i j g st y)) ∧ Below w.heap.size w w' := by
 obtain ⟨p, hp⟩ : ∃ p : Bool, p = (T.cformed 0 s q rs ws i j g st y) := ⟨_, rfl⟩;have HP := Lib.hid hp;rw [← hp];clear hp;obtain ⟨w0, hw0⟩ : ∃ w0, w0 = w.alloc (.cells #[.int .i64 0, .int .i64 s, .int .i64 q, .slice A1 rs.length c1, .slice A2 ws.length c2, .int .i64 i, .int .i64 j, .int .i64 g, .int .u64 (st : Int), .bool y] 33) := ⟨_, rfl⟩;(have g0 : Below w.heap.size w w0 := by rw [hw0]; exact (Below.refl _ _).alloc (Nat.le_refl _) _)
 obtain ⟨a0, a1, a2, a3, a4, a5, a6, a7, a8, a9⟩ : w0.cell? ⟨w.heap.size, 0, none⟩ = some (.int .i64 0) ∧ w0.cell? ⟨w.heap.size, 1, none⟩ = some (.int .i64 s) ∧ w0.cell? ⟨w.heap.size, 2, none⟩ = some (.int .i64 q) ∧ w0.cell? ⟨w.heap.size, 3, none⟩ = some (.slice A1 rs.length c1) ∧ w0.cell? ⟨w.heap.size, 4, none⟩ = some (.slice A2 ws.length c2) ∧ w0.cell? ⟨w.heap.size, 5, none⟩ = some (.int .i64 i) ∧ w0.cell? ⟨w.heap.size, 6, none⟩ = some (.int .i64 j) ∧ w0.cell? ⟨w.heap.size, 7, none⟩ = some (.int .i64 g) ∧ w0.cell? ⟨w.heap.size, 8, none⟩ = some (.int .u64 (st : Int)) ∧ w0.cell? ⟨w.heap.size, 9, none⟩ = some (.bool y) := by
  rw [hw0]; exact ⟨by simp, by simp, by simp, by simp, by simp, by simp, by simp, by simp, by simp, by simp⟩
 have gB := g0.size;have HO := Lib.hid (ok.below g0 hB);have HT := Lib.hid (hT.below g0);clear hT;clear ok;have H1 := Lib.hid (csame_any 0 s q rs ws A1 c1 A2 c2 i j g st y 0 0 0 [] [] none 0 none 0 0 0 0 0 false w0 B (by omega) HO.out TxOk.zero)
 have HQ : Hid (decide ((0 : Int) = 0 ∧ (i = 0 ∧ j = 0) ∧ g = 0 ∧ st = 0 ∧ y = false ∧ s = 0 ∧ q = 0 ∧ rs = [] ∧ ws = []) = p) := by
  show _ = _;rw [HP.out]; unfold T.cformed; rw [if_pos rfl]
  apply decide_eq_decide.2
  exact ⟨fun ⟨_, ⟨h1, h2⟩, h3, h4, h5, h6, h7, h8, h9⟩ => ⟨h6, h7, h8, h9, h1, h2, h3, h4, h5⟩, fun ⟨h6, h7, h8, h9, h1, h2, h3, h4, h5⟩ => ⟨rfl, ⟨h1, h2⟩, h3, h4, h5, h6, h7, h8, h9⟩⟩
 clear HP;generalize decide ((0 : Int) = 0 ∧ (i = 0 ∧ j = 0) ∧ g = 0 ∧ st = 0 ∧ y = false ∧ s = 0 ∧ q = 0 ∧ rs = [] ∧ ws = []) = r at *;simp only [List.length_nil] at H1;generalize rs.length = n1 at *;generalize ws.length = n2 at *
 go_enter Tryz.func48, Tryz.ntmps48
 go_upto_region 1 with fail
 rw [← hw0];clear hw0
 go_wp2_with fail
 refine H1.out.mono ?_;rintro e w1 ⟨rfl, b1⟩;clear H1
 go_wp2_with fail
 go_ret
 exact ⟨ret_bool HQ.out, g0.trans (b1.mono gB)⟩
theorem cf1 (s q : Int) (rs : List Rd1) (ws : List Wr1) (A1 : Option Addr) (c1 : Nat) (A2 : Option Addr) (c2 : Nat) (i j g : Int) (st : Nat) (y : Bool) (w : World) (B : Nat) (hB : B ≤ w.heap.size) (ok : TxOk w B rs ws A1 c1 A2 c2) (hT : Tabs w) :
 Calls Tryz.prog 48 #[.agg #[.int .i64 1, .int .i64 s, .int .i64 q, .slice A1 rs.length c1, .slice A2 ws.length c2, .int .i64 i, .int .i64 j, .int .i64 g, .int .u64 (st : Int), .bool y]] w fun e w' => e = .returned (.bool (T.cformed 1 s q rs ws i j g st y)) ∧ Below w.heap.size w w' := by
 obtain ⟨p, hp⟩ : ∃ p : Bool, p = (T.cformed 1 s q rs ws i j g st y) := ⟨_, rfl⟩;have HP := Lib.hid hp;rw [← hp];clear hp;obtain ⟨w0, hw0⟩ : ∃ w0, w0 = w.alloc (.cells #[.int .i64 1, .int .i64 s, .int .i64 q, .slice A1 rs.length c1, .slice A2 ws.length c2, .int .i64 i, .int .i64 j, .int .i64 g, .int .u64 (st : Int), .bool y] 33) := ⟨_, rfl⟩;(have g0 : Below w.heap.size w w0 := by rw [hw0]; exact (Below.refl _ _).alloc (Nat.le_refl _) _)
 obtain ⟨a0, a1, a2, a3, a4, a5, a6, a7, a8, a9⟩ : w0.cell? ⟨w.heap.size, 0, none⟩ = some (.int .i64 1) ∧ w0.cell? ⟨w.heap.size, 1, none⟩ = some (.int .i64 s) ∧ w0.cell? ⟨w.heap.size, 2, none⟩ = some (.int .i64 q) ∧ w0.cell? ⟨w.heap.size, 3, none⟩ = some (.slice A1 rs.length c1) ∧ w0.cell? ⟨w.heap.size, 4, none⟩ = some (.slice A2 ws.length c2) ∧ w0.cell? ⟨w.heap.size, 5, none⟩ = some (.int .i64 i) ∧ w0.cell? ⟨w.heap.size, 6, none⟩ = some (.int .i64 j) ∧ w0.cell? ⟨w.heap.size, 7, none⟩ = some (.int .i64 g) ∧ w0.cell? ⟨w.heap.size, 8, none⟩ = some (.int .u64 (st : Int)) ∧ w0.cell? ⟨w.heap.size, 9, none⟩ = some (.bool y) := by
  rw [hw0]; exact ⟨by simp, by simp, by simp, by simp, by simp, by simp, by simp, by simp, by simp, by simp⟩
 have gB := g0.size;have HO := Lib.hid (ok.below g0 hB);have HT := Lib.hid (hT.below g0);clear hT;clear ok;have H0 := Lib.hid (tformed_any s q rs ws A1 c1 A2 c2 w0 B (by omega) HO.out HT.out);have H1 := Lib.hid (fun z (hz : Below w0.heap.size w0 z) => csame_any 1 s q rs ws A1 c1 A2 c2 i j g st y 1 s q rs ws A1 c1 A2 c2 0 0 0 0 false z B (by have := hz.size; omega) (HO.out.below hz (by omega)) (HO.out.below hz (by omega)));(have HQ : Hid (T.formed s q rs ws = false → false = p) := by show _ → _; intro h; rw [HP.out]; unfold T.cformed; rw [if_neg (by omega), if_pos rfl, h]; rfl)
 have HQ2 : Hid (T.formed s q rs ws = true → decide ((1 : Int) = 1 ∧ (i = 0 ∧ j = 0) ∧ g = 0 ∧ st = 0 ∧ y = false ∧ s = s ∧ q = q ∧ rs = rs ∧ ws = ws) = p) := by
  show _ → _;intro h;rw [HP.out]; unfold T.cformed; rw [if_neg (by omega), if_pos rfl, h, Bool.true_and]
  apply decide_eq_decide.2
  exact ⟨fun ⟨_, ⟨h1, h2⟩, h3, h4, h5, _⟩ => ⟨h1, h2, h3, h4, h5⟩, fun ⟨h1, h2, h3, h4, h5⟩ => ⟨rfl, ⟨h1, h2⟩, h3, h4, h5, rfl, rfl, rfl, rfl⟩⟩
 clear HP;generalize T.formed s q rs ws = r0 at *;generalize decide ((1 : Int) = 1 ∧ (i = 0 ∧ j = 0) ∧ g = 0 ∧ st = 0 ∧ y = false ∧ s = s ∧ q = q ∧ rs = rs ∧ ws = ws) = r1 at *;generalize rs.length = n1 at *;generalize ws.length = n2 at *
 go_enter Tryz.func48, Tryz.ntmps48
 go_upto_region 1 with fail
 rw [← hw0];clear hw0
 go_wp2_with fail
 refine H0.out.mono ?_;rintro e w1 ⟨rfl, b1⟩;clear H0;have a0 := cellB b1 a0;have a1 := cellB b1 a1;have a2 := cellB b1 a2;have a3 := cellB b1 a3;have a4 := cellB b1 a4;have a5 := cellB b1 a5;have a6 := cellB b1 a6;have a7 := cellB b1 a7;have a8 := cellB b1 a8;have a9 := cellB b1 a9;have e1 := g0.trans (b1.mono gB)
 cases r0 with
 | false =>
   have HR := Lib.hid (HQ.out rfl);clear HQ HQ2
   go_wp2_with fail
   go_ret
   exact ⟨ret_bool HR.out, e1⟩
 | true =>
   have HR := Lib.hid (HQ2.out rfl);clear HQ HQ2
   go_wp2_with fail
   refine (H1.out w1 b1).mono ?_;rintro e w2 ⟨rfl, b2⟩;clear H1
   go_wp2_with fail
   go_ret
   exact ⟨ret_bool HR.out, e1.trans (b2.mono (by have := b1.size; omega))⟩
theorem cf2 (s q : Int) (rs : List Rd1) (ws : List Wr1) (A1 : Option Addr) (c1 : Nat) (A2 : Option Addr) (c2 : Nat) (i j g : Int) (st : Nat) (y : Bool) (w : World) (B : Nat) (hB : B ≤ w.heap.size) (ok : TxOk w B rs ws A1 c1 A2 c2) (hT : Tabs w) :
 Calls Tryz.prog 48 #[.agg #[.int .i64 2, .int .i64 s, .int .i64 q, .slice A1 rs.length c1, .slice A2 ws.length c2, .int .i64 i, .int .i64 j, .int .i64 g, .int .u64 (st : Int), .bool y]] w fun e w' => e = .returned (.bool (T.cformed 2 s q rs ws i j g st y)) ∧ Below w.heap.size w w' := by
 obtain ⟨p, hp⟩ : ∃ p : Bool, p = (T.cformed 2 s q rs ws i j g st y) := ⟨_, rfl⟩;have HP := Lib.hid hp;rw [← hp];clear hp;obtain ⟨w0, hw0⟩ : ∃ w0, w0 = w.alloc (.cells #[.int .i64 2, .int .i64 s, .int .i64 q, .slice A1 rs.length c1, .slice A2 ws.length c2, .int .i64 i, .int .i64 j, .int .i64 g, .int .u64 (st : Int), .bool y] 33) := ⟨_, rfl⟩;(have g0 : Below w.heap.size w w0 := by rw [hw0]; exact (Below.refl _ _).alloc (Nat.le_refl _) _)
 obtain ⟨a0, a1, a2, a3, a4, a5, a6, a7, a8, a9⟩ : w0.cell? ⟨w.heap.size, 0, none⟩ = some (.int .i64 2) ∧ w0.cell? ⟨w.heap.size, 1, none⟩ = some (.int .i64 s) ∧ w0.cell? ⟨w.heap.size, 2, none⟩ = some (.int .i64 q) ∧ w0.cell? ⟨w.heap.size, 3, none⟩ = some (.slice A1 rs.length c1) ∧ w0.cell? ⟨w.heap.size, 4, none⟩ = some (.slice A2 ws.length c2) ∧ w0.cell? ⟨w.heap.size, 5, none⟩ = some (.int .i64 i) ∧ w0.cell? ⟨w.heap.size, 6, none⟩ = some (.int .i64 j) ∧ w0.cell? ⟨w.heap.size, 7, none⟩ = some (.int .i64 g) ∧ w0.cell? ⟨w.heap.size, 8, none⟩ = some (.int .u64 (st : Int)) ∧ w0.cell? ⟨w.heap.size, 9, none⟩ = some (.bool y) := by
  rw [hw0]; exact ⟨by simp, by simp, by simp, by simp, by simp, by simp, by simp, by simp, by simp, by simp⟩
 have gB := g0.size;have HO := Lib.hid (ok.below g0 hB);have HT := Lib.hid (hT.below g0);clear hT;clear ok;have H0 := Lib.hid (tid_any i j w0);have H1 := Lib.hid (fun z (hz : Below w0.heap.size w0 z) => csame_any 2 s q rs ws A1 c1 A2 c2 i j g st y 2 0 0 [] [] none 0 none 0 i j g st false z B (by have := hz.size; omega) (HO.out.below hz (by omega)) TxOk.zero);have HG := Lib.hid (fun z => cgroup_any g z)
 have HQ : Hid (¬ (idb i j = true ∧ 1 ≤ st ∧ st < 9223372036854775808 ∧ decide (0 ≤ g ∧ g < 4) = true) → false = p) := by
  show _ → _; intro h; rw [HP.out]; unfold T.cformed; rw [if_neg (by omega), if_neg (by omega), if_pos rfl]
  symm
  rw [Bool.and_eq_false_iff, Bool.and_eq_false_iff]
  by_cases hi : idb i j = true
  ·right
   apply decide_eq_false
   exact fun e => h ⟨hi, e.2.2.1, e.2.2.2, decide_eq_true ⟨e.1, e.2.1⟩⟩
  ·left; right; simpa using hi
 have HQ2 : Hid (idb i j = true → 1 ≤ st → st < 9223372036854775808 → decide (0 ≤ g ∧ g < 4) = true → decide ((2 : Int) = 2 ∧ (i = i ∧ j = j) ∧ g = g ∧ st = st ∧ y = false ∧ s = 0 ∧ q = 0 ∧ rs = [] ∧ ws = []) = p) := by
  show _ → _;intro h1 h2 h3 h4;rw [HP.out]; unfold T.cformed; rw [if_neg (by omega), if_neg (by omega), if_pos rfl, h1, Bool.and_true];have h4 := of_decide_eq_true h4;rw [decide_eq_true (show 0 ≤ g ∧ g < 4 ∧ 1 ≤ st ∧ st < 9223372036854775808 from ⟨h4.1, h4.2, h2, h3⟩), Bool.and_true]
  apply decide_eq_decide.2
  exact ⟨fun ⟨_, _, _, _, h5, h6, h7, h8, h9⟩ => ⟨h6, h7, h8, h9, h5⟩, fun ⟨h6, h7, h8, h9, h5⟩ => ⟨rfl, ⟨rfl, rfl⟩, rfl, rfl, h5, h6, h7, h8, h9⟩⟩
 clear HP;generalize decide ((2 : Int) = 2 ∧ (i = i ∧ j = j) ∧ g = g ∧ st = st ∧ y = false ∧ s = 0 ∧ q = 0 ∧ rs = [] ∧ ws = []) = r1 at *;simp only [List.length_nil] at H1;generalize rs.length = n1 at *;generalize ws.length = n2 at *
 go_enter Tryz.func48, Tryz.ntmps48
 go_upto_region 1 with fail
 rw [← hw0];clear hw0
 go_wp2_with fail
 refine H0.out.mono ?_;rintro e w1 ⟨rfl, b1⟩;clear H0;have a0 := cellB b1 a0;have a1 := cellB b1 a1;have a2 := cellB b1 a2;have a3 := cellB b1 a3;have a4 := cellB b1 a4;have a5 := cellB b1 a5;have a6 := cellB b1 a6;have a7 := cellB b1 a7;have a8 := cellB b1 a8;have a9 := cellB b1 a9;have e1 := g0.trans (b1.mono gB)
 cases hid : idb i j with
 | false =>
   have HR := Lib.hid (HQ.out fun h => by rw [hid] at h; exact Bool.noConfusion h.1);clear HQ HQ2 hid
   go_wp2_with fail
   go_ret
   exact ⟨ret_bool HR.out, e1⟩
 | true =>
   by_cases h1 : 1 ≤ st
   ·have d1 : decide (1 ≤ (st : Int)) = true := by simp; omega
    by_cases h2 : st < 9223372036854775808
    ·have d2 : decide ((st : Int) < 9223372036854775808) = true := by simp; omega
     cases hg : decide (0 ≤ g ∧ g < 4) with
     | false =>
       have HR := Lib.hid (HQ.out fun h => by rw [hg] at h; exact Bool.noConfusion h.2.2.2);rw [hg] at HG;clear HQ HQ2 hid hg
       go_wp2_with fail
       refine (HG.out w1).mono ?_;rintro e w' ⟨rfl, rfl⟩
       go_wp2_with fail
       go_ret
       exact ⟨ret_bool HR.out, e1⟩
     | true =>
       have HR := Lib.hid (HQ2.out hid h1 h2 hg);rw [hg] at HG;clear HQ HQ2 hid hg
       go_wp2_with fail
       refine (HG.out w1).mono ?_;rintro e w' ⟨rfl, rfl⟩
       go_wp2_with fail
       refine (H1.out w1 b1).mono ?_;rintro e w2 ⟨rfl, b2⟩;clear H1
       go_wp2_with fail
       go_ret
       exact ⟨ret_bool HR.out, e1.trans (b2.mono (by have := b1.size; omega))⟩
    ·(have d2 : decide ((st : Int) < 9223372036854775808) = false := by simp; omega);have HR := Lib.hid (HQ.out fun h => h2 h.2.2.1);clear HQ HQ2 hid
     go_wp2_with fail
     go_ret
     exact ⟨ret_bool HR.out, e1⟩
   ·(have d1 : decide (1 ≤ (st : Int)) = false := by simp; omega);have HR := Lib.hid (HQ.out fun h => h1 h.2.1);clear HQ HQ2 hid
    go_wp2_with fail
    go_ret
    exact ⟨ret_bool HR.out, e1⟩
theorem cf3 (s q : Int) (rs : List Rd1) (ws : List Wr1) (A1 : Option Addr) (c1 : Nat) (A2 : Option Addr) (c2 : Nat) (i j g : Int) (st : Nat) (y : Bool) (w : World) (B : Nat) (hB : B ≤ w.heap.size) (ok : TxOk w B rs ws A1 c1 A2 c2) (hT : Tabs w) :
 Calls Tryz.prog 48 #[.agg #[.int .i64 3, .int .i64 s, .int .i64 q, .slice A1 rs.length c1, .slice A2 ws.length c2, .int .i64 i, .int .i64 j, .int .i64 g, .int .u64 (st : Int), .bool y]] w fun e w' => e = .returned (.bool (T.cformed 3 s q rs ws i j g st y)) ∧ Below w.heap.size w w' := by
 obtain ⟨p, hp⟩ : ∃ p : Bool, p = (T.cformed 3 s q rs ws i j g st y) := ⟨_, rfl⟩;have HP := Lib.hid hp;rw [← hp];clear hp;obtain ⟨w0, hw0⟩ : ∃ w0, w0 = w.alloc (.cells #[.int .i64 3, .int .i64 s, .int .i64 q, .slice A1 rs.length c1, .slice A2 ws.length c2, .int .i64 i, .int .i64 j, .int .i64 g, .int .u64 (st : Int), .bool y] 33) := ⟨_, rfl⟩;(have g0 : Below w.heap.size w w0 := by rw [hw0]; exact (Below.refl _ _).alloc (Nat.le_refl _) _)
 obtain ⟨a0, a1, a2, a3, a4, a5, a6, a7, a8, a9⟩ : w0.cell? ⟨w.heap.size, 0, none⟩ = some (.int .i64 3) ∧ w0.cell? ⟨w.heap.size, 1, none⟩ = some (.int .i64 s) ∧ w0.cell? ⟨w.heap.size, 2, none⟩ = some (.int .i64 q) ∧ w0.cell? ⟨w.heap.size, 3, none⟩ = some (.slice A1 rs.length c1) ∧ w0.cell? ⟨w.heap.size, 4, none⟩ = some (.slice A2 ws.length c2) ∧ w0.cell? ⟨w.heap.size, 5, none⟩ = some (.int .i64 i) ∧ w0.cell? ⟨w.heap.size, 6, none⟩ = some (.int .i64 j) ∧ w0.cell? ⟨w.heap.size, 7, none⟩ = some (.int .i64 g) ∧ w0.cell? ⟨w.heap.size, 8, none⟩ = some (.int .u64 (st : Int)) ∧ w0.cell? ⟨w.heap.size, 9, none⟩ = some (.bool y) := by
  rw [hw0]; exact ⟨by simp, by simp, by simp, by simp, by simp, by simp, by simp, by simp, by simp, by simp⟩
 have gB := g0.size;have HO := Lib.hid (ok.below g0 hB);have HT := Lib.hid (hT.below g0);clear hT;clear ok;have H0 := Lib.hid (tid_any i j w0);have H1 := Lib.hid (fun z (hz : Below w0.heap.size w0 z) => csame_any 3 s q rs ws A1 c1 A2 c2 i j g st y 3 0 0 [] [] none 0 none 0 i j g 0 y z B (by have := hz.size; omega) (HO.out.below hz (by omega)) TxOk.zero);have HG := Lib.hid (fun z => cgroup_any g z)
 have HQ : Hid (¬ (idb i j = true ∧ decide (0 ≤ g ∧ g < 4) = true) → false = p) := by
  show _ → _; intro h; rw [HP.out]; unfold T.cformed; rw [if_neg (by omega), if_neg (by omega), if_neg (by omega), if_pos rfl]
  symm
  rw [Bool.and_eq_false_iff, Bool.and_eq_false_iff]
  by_cases hi : idb i j = true
  ·right
   cases hg : decide (0 ≤ g ∧ g < 4) with
   | false => rfl
   | true => exact absurd ⟨hi, hg⟩ h
  ·left; right; simpa using hi
 have HQ2 : Hid (idb i j = true → decide (0 ≤ g ∧ g < 4) = true → decide ((3 : Int) = 3 ∧ (i = i ∧ j = j) ∧ g = g ∧ st = 0 ∧ y = y ∧ s = 0 ∧ q = 0 ∧ rs = [] ∧ ws = []) = p) := by
  show _ → _;intro h1 h4;rw [HP.out]; unfold T.cformed; rw [if_neg (by omega), if_neg (by omega), if_neg (by omega), if_pos rfl, h1, Bool.and_true, h4, Bool.and_true]
  apply decide_eq_decide.2
  exact ⟨fun ⟨_, _, _, h5, _, h6, h7, h8, h9⟩ => ⟨h6, h7, h8, h9, h5⟩, fun ⟨h6, h7, h8, h9, h5⟩ => ⟨rfl, ⟨rfl, rfl⟩, rfl, h5, rfl, h6, h7, h8, h9⟩⟩
 clear HP;generalize decide ((3 : Int) = 3 ∧ (i = i ∧ j = j) ∧ g = g ∧ st = 0 ∧ y = y ∧ s = 0 ∧ q = 0 ∧ rs = [] ∧ ws = []) = r1 at *;simp only [List.length_nil] at H1;generalize rs.length = n1 at *;generalize ws.length = n2 at *
 go_enter Tryz.func48, Tryz.ntmps48
 go_upto_region 1 with fail
 rw [← hw0];clear hw0
 go_wp2_with fail
 refine H0.out.mono ?_;rintro e w1 ⟨rfl, b1⟩;clear H0;have a0 := cellB b1 a0;have a1 := cellB b1 a1;have a2 := cellB b1 a2;have a3 := cellB b1 a3;have a4 := cellB b1 a4;have a5 := cellB b1 a5;have a6 := cellB b1 a6;have a7 := cellB b1 a7;have a8 := cellB b1 a8;have a9 := cellB b1 a9;have e1 := g0.trans (b1.mono gB)
 cases hid : idb i j with
 | false =>
   have HR := Lib.hid (HQ.out fun h => by rw [hid] at h; exact Bool.noConfusion h.1);clear HQ HQ2 hid
   go_wp2_with fail
   go_ret
   exact ⟨ret_bool HR.out, e1⟩
 | true =>
   cases hg : decide (0 ≤ g ∧ g < 4) with
   | false =>
     have HR := Lib.hid (HQ.out fun h => by rw [hg] at h; exact Bool.noConfusion h.2);rw [hg] at HG;clear HQ HQ2 hid hg
     go_wp2_with fail
     refine (HG.out w1).mono ?_;rintro e w' ⟨rfl, rfl⟩
     go_wp2_with fail
     go_ret
     exact ⟨ret_bool HR.out, e1⟩
   | true =>
     have HR := Lib.hid (HQ2.out hid hg);rw [hg] at HG;clear HQ HQ2 hid hg
     go_wp2_with fail
     refine (HG.out w1).mono ?_;rintro e w' ⟨rfl, rfl⟩
     go_wp2_with fail
     refine (H1.out w1 b1).mono ?_;rintro e w2 ⟨rfl, b2⟩;clear H1
     go_wp2_with fail
     go_ret
     exact ⟨ret_bool HR.out, e1.trans (b2.mono (by have := b1.size; omega))⟩
theorem cf4 (k : Int) (k0 : ¬ k = 0) (k1 : ¬ k = 1) (k2 : ¬ k = 2) (k3 : ¬ k = 3) (s q : Int) (rs : List Rd1) (ws : List Wr1) (A1 : Option Addr) (c1 : Nat) (A2 : Option Addr) (c2 : Nat) (i j g : Int) (st : Nat) (y : Bool) (w : World) (B : Nat) (hB : B ≤ w.heap.size) (ok : TxOk w B rs ws A1 c1 A2 c2) (hT : Tabs w) :
 Calls Tryz.prog 48 #[.agg #[.int .i64 k, .int .i64 s, .int .i64 q, .slice A1 rs.length c1, .slice A2 ws.length c2, .int .i64 i, .int .i64 j, .int .i64 g, .int .u64 (st : Int), .bool y]] w fun e w' => e = .returned (.bool (T.cformed k s q rs ws i j g st y)) ∧ Below w.heap.size w w' := by
 obtain ⟨p, hp⟩ : ∃ p : Bool, p = (T.cformed k s q rs ws i j g st y) := ⟨_, rfl⟩;have HP := Lib.hid hp;rw [← hp];clear hp;obtain ⟨w0, hw0⟩ : ∃ w0, w0 = w.alloc (.cells #[.int .i64 k, .int .i64 s, .int .i64 q, .slice A1 rs.length c1, .slice A2 ws.length c2, .int .i64 i, .int .i64 j, .int .i64 g, .int .u64 (st : Int), .bool y] 33) := ⟨_, rfl⟩;(have g0 : Below w.heap.size w w0 := by rw [hw0]; exact (Below.refl _ _).alloc (Nat.le_refl _) _)
 obtain ⟨a0, a1, a2, a3, a4, a5, a6, a7, a8, a9⟩ : w0.cell? ⟨w.heap.size, 0, none⟩ = some (.int .i64 k) ∧ w0.cell? ⟨w.heap.size, 1, none⟩ = some (.int .i64 s) ∧ w0.cell? ⟨w.heap.size, 2, none⟩ = some (.int .i64 q) ∧ w0.cell? ⟨w.heap.size, 3, none⟩ = some (.slice A1 rs.length c1) ∧ w0.cell? ⟨w.heap.size, 4, none⟩ = some (.slice A2 ws.length c2) ∧ w0.cell? ⟨w.heap.size, 5, none⟩ = some (.int .i64 i) ∧ w0.cell? ⟨w.heap.size, 6, none⟩ = some (.int .i64 j) ∧ w0.cell? ⟨w.heap.size, 7, none⟩ = some (.int .i64 g) ∧ w0.cell? ⟨w.heap.size, 8, none⟩ = some (.int .u64 (st : Int)) ∧ w0.cell? ⟨w.heap.size, 9, none⟩ = some (.bool y) := by
  rw [hw0]; exact ⟨by simp, by simp, by simp, by simp, by simp, by simp, by simp, by simp, by simp, by simp⟩
 have gB := g0.size;have HO := Lib.hid (ok.below g0 hB);have HT := Lib.hid (hT.below g0);clear hT;clear ok;(have HR : Hid (false = p) := by show _ = _; rw [HP.out]; unfold T.cformed; rw [if_neg k0, if_neg k1, if_neg k2, if_neg k3]);generalize rs.length = n1 at *;generalize ws.length = n2 at *
 go_enter Tryz.func48, Tryz.ntmps48
 go_upto_region 1 with fail
 rw [← hw0];clear hw0
 go_wp2_with fail
 go_ret
 exact ⟨ret_bool HR.out, g0⟩
theorem cformed_any (k : Int) (s q : Int) (rs : List Rd1) (ws : List Wr1) (A1 : Option Addr) (c1 : Nat) (A2 : Option Addr) (c2 : Nat) (i j g : Int) (st : Nat) (y : Bool) (w : World) (B : Nat) (hB : B ≤ w.heap.size) (ok : TxOk w B rs ws A1 c1 A2 c2) (hT : Tabs w) :
 Calls Tryz.prog 48 #[.agg #[.int .i64 k, .int .i64 s, .int .i64 q, .slice A1 rs.length c1, .slice A2 ws.length c2, .int .i64 i, .int .i64 j, .int .i64 g, .int .u64 (st : Int), .bool y]] w fun e w' => e = .returned (.bool (T.cformed k s q rs ws i j g st y)) ∧ Below w.heap.size w w' := by
 by_cases k0 : k = 0
 ·subst k0; exact cf0 s q rs ws A1 c1 A2 c2 i j g st y w B hB ok hT
 ·by_cases k1 : k = 1
  ·subst k1; exact cf1 s q rs ws A1 c1 A2 c2 i j g st y w B hB ok hT
  ·by_cases k2 : k = 2
   ·subst k2; exact cf2 s q rs ws A1 c1 A2 c2 i j g st y w B hB ok hT
   ·by_cases k3 : k = 3
    ·subst k3; exact cf3 s q rs ws A1 c1 A2 c2 i j g st y w B hB ok hT
    ·exact cf4 k k0 k1 k2 k3 s q rs ws A1 c1 A2 c2 i j g st y w B hB ok hT
end
section
open Go.RowKit T
namespace T
def Ms.fit (m : Ms) : Bool := !decide (fieldsOf m.kd = []) && m.only.same m && !decide (m.sl < 0) && !decide (1000000 < m.sl) && !decide (m.nu < 0) && !decide (2147483647 < m.nu) && !decide (m.g < 0) && !decide (4 ≤ m.g) && !decide (m.er < 0) && !decide (11 < m.er) && !decide (59900 < (m.dt.length : Int))
def Ms.sound (m : Ms) : Bool := !(decide ((66 : UInt8) ∈ fieldsOf m.kd) && !B.formed m.bn) && !(m.ha && !B.formed m.vn) && !((decide ((67 : UInt8) ∈ fieldsOf m.kd) || m.ha) && !m.c.formed) && !(decide ((84 : UInt8) ∈ fieldsOf m.kd) && !T.formed m.t.s m.t.q m.t.rs m.t.ws) && !(decide ((73 : UInt8) ∈ fieldsOf m.kd) && !T.idb m.ii m.ij) && V.formed m.vk m.vb m.vt.data.toList && !(decide ((75 : UInt8) ∈ fieldsOf m.kd) && !V.key m.ky.data.toList && (!decide (m.ky.data.toList = []) || !decide (m.kd = 13)))
def Ms.formed (m : Ms) : Bool := m.fit && m.sound
end T
theorem putOk {w : World} {B : Nat} {m o : Ms} (h : MsOk w B m) (ho : MsOk w B o) (l : Nat) : MsOk w B (m.put o l) := by
 unfold Ms.put
 by_cases l66 : l = 66
 ·rw [if_pos l66]; exact { ho with br := h.br }
 rw [if_neg l66]
 by_cases l83 : l = 83
 ·rw [if_pos l83]; exact { ho with br := ho.br }
 rw [if_neg l83]
 by_cases l72 : l = 72
 ·rw [if_pos l72]
  cases hb : m.ha with
  | true => rw [if_pos rfl]; exact { ho with c := h.c, vr := h.vr }
  | false => rw [if_neg (by decide)]; exact { ho with br := ho.br }
 rw [if_neg l72]
 by_cases l67 : l = 67
 ·rw [if_pos l67]; exact { ho with c := h.c }
 rw [if_neg l67]
 by_cases l84 : l = 84
 ·rw [if_pos l84]; exact { ho with t := h.t }
 rw [if_neg l84]
 by_cases l73 : l = 73
 ·rw [if_pos l73]; exact { ho with br := ho.br }
 rw [if_neg l73]
 by_cases l71 : l = 71
 ·rw [if_pos l71]; exact { ho with br := ho.br }
 rw [if_neg l71]
 by_cases l80 : l = 80
 ·rw [if_pos l80]; exact { ho with st := h.st }
 rw [if_neg l80]
 by_cases l89 : l = 89
 ·rw [if_pos l89]; exact { ho with br := ho.br }
 rw [if_neg l89]
 by_cases l78 : l = 78
 ·rw [if_pos l78]; exact { ho with br := ho.br }
 rw [if_neg l78]
 by_cases l75 : l = 75
 ·rw [if_pos l75]; exact { ho with ks := h.ks }
 rw [if_neg l75]
 by_cases l86 : l = 86
 ·rw [if_pos l86]; exact { ho with ve := h.ve }
 rw [if_neg l86]
 by_cases l88 : l = 88
 ·rw [if_pos l88]; exact { ho with ts := h.ts, vb := h.vb }
 rw [if_neg l88]
 by_cases l69 : l = 69
 ·rw [if_pos l69]; exact { ho with br := ho.br }
 rw [if_neg l69]
 by_cases l68 : l = 68
 ·rw [if_pos l68]; exact { ho with d := h.d, dl := h.dl, dm := h.dm, dn := h.dn }
 rw [if_neg l68];exact ho
theorem zeroOk (w : World) (B : Nat) (k : Int) : MsOk w B (Ms.zero k) := ⟨CmOk.zero, TxOk.zero, Rd.nil, Nat.le_refl _, by simp [Ms.zero, maxLen], fun _ => ⟨rfl, rfl⟩, by simp [Ms.zero], by simp [Ms.zero], by simp [Ms.zero], by simp [Ms.zero], by simp [Ms.zero], by simp [Ms.zero], by simp [Ms.zero]⟩
theorem onlyOk {w : World} {B : Nat} {m : Ms} (h : MsOk w B m) : MsOk w B m.only := by
 unfold Ms.only;generalize fieldsOf m.kd = l
 have : ∀ o, MsOk w B o → MsOk w B (l.foldl (fun o c => m.put o c.toNat) o) := by
  induction l with
  | nil => exact fun o ho => ho
  | cons c t ih => exact fun o ho => ih _ (putOk h ho _)
 exact this _ (zeroOk w B _)
theorem has_any (c : UInt8) (fs : List UInt8) (gf : Nat) (z : World) (hz : z.heap[gf]? = some (.cells [.string ⟨fs.toArray⟩].toArray 9 (0, 0))) :
 Calls Tryz.prog 106 #[.string ⟨#[c]⟩, .pointer (some ⟨gf, 0, none⟩)] z fun e w' => e = .returned (.bool (decide (c ∈ fs))) ∧ z = w' := by
 have c0 := rowCell hz 0 (v := .string ⟨fs.toArray⟩) rfl;have HC := Lib.hid (sContains ⟨fs.toArray⟩ c z);rw [show decide (0 ≤ Lib.indexByte (⟨fs.toArray⟩ : ByteArray).data.toList c) = decide (c ∈ fs) from indexByte_mem fs c] at HC;generalize decide (c ∈ fs) = d at HC ⊢;clear hz
 go_enter Tryz.func106, Tryz.ntmps106
 go_wp2_with (go_at_call 107; refine HC.out.mono ?_; rintro e w' ⟨rfl, rfl⟩)
 go_ret
 exact ⟨rfl, rfl⟩
end
section
open Go.RowKit
namespace V
theorem run_eqv (k : Int) (b : Nat) (t : ByteArray) (k' : Int) (b' : Nat) (t' : ByteArray) (w : World) :
 (binOp .eql 77 (.agg #[.int .i64 k, .int .u64 b, .string t]) (.agg #[.int .i64 k', .int .u64 b', .string t'])).run Tryz.prog w = .ok (.bool (decide (k = k' ∧ b = b' ∧ t.toList = t'.toList))) w := by
 have hf : (Tryz.prog.fieldsOf 77).toList = [{ name := "Kind", type := 3, offset := 0, embedded := false, tag := "", pkgPath := "", byteOffset := 0 },
  { name := "Bits", type := 31, offset := 1, embedded := false, tag := "", pkgPath := "", byteOffset := 8 },
  { name := "Text", type := 9, offset := 2, embedded := false, tag := "", pkgPath := "", byteOffset := 16 }] := by kernel_rfl
 (have h27 : Tryz.prog.underlying 77 = some (.struct (Tryz.prog.fieldsOf 77)) := by kernel_rfl);have e := run_equalIn_struct (P := Tryz.prog) w 9999 77 #[.int .i64 k, .int .u64 b, .string t] #[.int .i64 k', .int .u64 b', .string t'] h27 (by kernel_rfl);rw [run_eql_struct, show (10000 : Nat) = 9999 + 1 from rfl, e, hf];have e0 : ∀ w, (Op.equalIn 9999 3 (.int .i64 k) (.int .i64 k')).run Tryz.prog w = .ok (k == k') w := fun w => run_equalIn_int w 9998 3 .i64 .i64 k k' Tryz.underlying3;have e1 : ∀ w, (Op.equalIn 9999 31 (.int .u64 b) (.int .u64 b')).run Tryz.prog w = .ok ((b : Int) == (b' : Int)) w := fun w => run_equalIn_int w 9998 31 .u64 .u64 _ _ Tryz.underlying31;have e2 : ∀ w, (Op.equalIn 9999 9 (.string t) (.string t')).run Tryz.prog w = .ok (t.toList == t'.toList) w := fun w => run_equalIn_string w 9998 9 t t' Tryz.underlying9;(have p0 : ∀ (x y z : Value) w, (part 3 #[x, y, z] 0).run Tryz.prog w = .ok x w := fun x y z w => by rfl);(have p1 : ∀ (x y z : Value) w, (part 31 #[x, y, z] 1).run Tryz.prog w = .ok y w := fun x y z w => by rfl);(have p2 : ∀ (x y z : Value) w, (part 9 #[x, y, z] 2).run Tryz.prog w = .ok z w := fun x y z w => by rfl);generalize hd : (9999 : Nat) = d at *;clear hd e
 by_cases hk : k = k'
 ·subst hk
  by_cases hb : b = b'
  ·subst hb
   by_cases ht : t.toList = t'.toList
   ·simp [Op.eqFields, e0, e1, e2, p0, p1, p2, ht]
   ·simp [Op.eqFields, e0, e1, e2, p0, p1, p2, ht]
  ·simp [Op.eqFields, e0, e1, e2, p0, p1, p2, hb];exact fun h => absurd (by omega) hb
 ·simp [Op.eqFields, e0, e1, e2, p0, p1, p2, hk]
end V
end
end Go.Proofs.YthclniimhpmeoaaGreatDoor
