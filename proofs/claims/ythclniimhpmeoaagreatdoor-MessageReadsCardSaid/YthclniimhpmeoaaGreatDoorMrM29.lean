import Derived.Test.YthclniimhpmeoaaGreatDoorMrM25
import Derived.Test.YthclniimhpmeoaaGreatDoorMrM28
set_option maxHeartbeats 6400000
set_option linter.unusedSimpArgs false
set_option linter.unusedVariables false
namespace Go.Proofs.YthclniimhpmeoaaGreatDoor
set_option maxRecDepth 20000
open Go.RowKit T
theorem rcf0 (s q : Int) (rs : List Rd1) (ws : List Wr1) (A1 : Option Addr) (c1 : Nat) (A2 : Option Addr) (c2 : Nat) (i j g : Int) (st : Nat) (y : Bool) (w : World) (B : Nat) (hB : B ≤ w.heap.size) (ok : TxOk w B rs ws A1 c1 A2 c2) :
 Calls Tryz.prog 51 #[.agg #[.int .i64 0, .int .i64 s, .int .i64 q, .slice A1 rs.length c1, .slice A2 ws.length c2, .int .i64 i, .int .i64 j, .int .i64 g, .int .u64 (st : Int), .bool y]] w fun e w' => e = .returned (.bool (T.cformed 0 s q rs ws i j g st y)) ∧ Below w.heap.size w w' := by
 obtain ⟨p, hp⟩ : ∃ p : Bool, p = (T.cformed 0 s q rs ws i j g st y) := ⟨_, rfl⟩;have HP := Lib.hid hp;rw [← hp];clear hp;obtain ⟨w0, hw0⟩ : ∃ w0, w0 = w.alloc (.cells #[.int .i64 0, .int .i64 s, .int .i64 q, .slice A1 rs.length c1, .slice A2 ws.length c2, .int .i64 i, .int .i64 j, .int .i64 g, .int .u64 (st : Int), .bool y] 45) := ⟨_, rfl⟩;(have g0 : Below w.heap.size w w0 := by rw [hw0]; exact (Below.refl _ _).alloc (Nat.le_refl _) _)
 obtain ⟨a0, a1, a2, a3, a4, a5, a6, a7, a8, a9⟩ : w0.cell? ⟨w.heap.size, 0, none⟩ = some (.int .i64 0) ∧ w0.cell? ⟨w.heap.size, 1, none⟩ = some (.int .i64 s) ∧ w0.cell? ⟨w.heap.size, 2, none⟩ = some (.int .i64 q) ∧ w0.cell? ⟨w.heap.size, 3, none⟩ = some (.slice A1 rs.length c1) ∧ w0.cell? ⟨w.heap.size, 4, none⟩ = some (.slice A2 ws.length c2) ∧ w0.cell? ⟨w.heap.size, 5, none⟩ = some (.int .i64 i) ∧ w0.cell? ⟨w.heap.size, 6, none⟩ = some (.int .i64 j) ∧ w0.cell? ⟨w.heap.size, 7, none⟩ = some (.int .i64 g) ∧ w0.cell? ⟨w.heap.size, 8, none⟩ = some (.int .u64 (st : Int)) ∧ w0.cell? ⟨w.heap.size, 9, none⟩ = some (.bool y) := by
  rw [hw0]; exact ⟨by simp, by simp, by simp, by simp, by simp, by simp, by simp, by simp, by simp, by simp⟩
 have gB := g0.size;have HO := Lib.hid (ok.below g0 hB);clear ok;have H0 := Lib.hid (rtsame_any s q rs ws A1 c1 A2 c2 0 0 [] [] none 0 none 0 w0 B (by omega) HO.out TxOk.zero);obtain ⟨no, hno⟩ : ∃ no, no = decide (s = 0 ∧ q = 0 ∧ rs = [] ∧ ws = []) := ⟨_, rfl⟩;have HNO := Lib.hid hno;rw [← hno] at H0;simp only [List.length_nil] at H0;have H1 := Lib.hid (fun z => rtid_any i j z);obtain ⟨ib, hib⟩ : ∃ ib, ib = idb i j := ⟨_, rfl⟩;have HIB := Lib.hid hib;rw [← hib] at H1;clear hno hib;have HS := Lib.hid (fun z (hz : Below w0.heap.size w0 z) => rcsame_any 0 s q rs ws A1 c1 A2 c2 i j g st y 0 0 0 [] [] none 0 none 0 0 0 0 0 false z B (by have := hz.size; omega) (HO.out.below hz (by omega)) TxOk.zero)
 have HQ : Hid (decide ((0 : Int) = 0 ∧ (i = 0 ∧ j = 0) ∧ g = 0 ∧ st = 0 ∧ y = false ∧ s = 0 ∧ q = 0 ∧ rs = [] ∧ ws = []) = p) := by
  show _ = _;rw [HP.out]; unfold T.cformed; rw [if_pos rfl]
  apply decide_eq_decide.2
  exact ⟨fun ⟨_, ⟨h1, h2⟩, h3, h4, h5, h6, h7, h8, h9⟩ => ⟨h6, h7, h8, h9, h1, h2, h3, h4, h5⟩, fun ⟨h6, h7, h8, h9, h1, h2, h3, h4, h5⟩ => ⟨rfl, ⟨h1, h2⟩, h3, h4, h5, h6, h7, h8, h9⟩⟩
 clear HP;generalize decide ((0 : Int) = 0 ∧ (i = 0 ∧ j = 0) ∧ g = 0 ∧ st = 0 ∧ y = false ∧ s = 0 ∧ q = 0 ∧ rs = [] ∧ ws = []) = r at *;simp only [List.length_nil] at HS;generalize rs.length = n1 at *;generalize ws.length = n2 at *
 go_enter Tryz.func51, Tryz.ntmps51
 go_upto_region 1 with fail
 rw [← hw0];clear hw0
 go_wp2_with fail
 refine H0.out.mono ?_;rintro e w1 ⟨rfl, b1⟩;clear H0;have a0 := cellB b1 a0;have a1 := cellB b1 a1;have a2 := cellB b1 a2;have a3 := cellB b1 a3;have a4 := cellB b1 a4;have a5 := cellB b1 a5;have a6 := cellB b1 a6;have a7 := cellB b1 a7;have a8 := cellB b1 a8;have a9 := cellB b1 a9;have e1 := g0.trans (b1.mono gB);have s1 := b1.size
 cases no with
 | false =>
   go_wp2_with fail
   refine (HS.out w1 b1).mono ?_;rintro e w9 ⟨rfl, b9⟩
   go_wp2_with fail
   go_ret
   exact ⟨ret_bool HQ.out, e1.trans (b9.mono (by omega))⟩
 | true =>
   go_wp2_with fail
   refine (H1.out w1).mono ?_;rintro e w2 ⟨rfl, b2⟩;clear H1;have a0 := cellB b2 a0;have a1 := cellB b2 a1;have a2 := cellB b2 a2;have a3 := cellB b2 a3;have a4 := cellB b2 a4;have a5 := cellB b2 a5;have a6 := cellB b2 a6;have a7 := cellB b2 a7;have a8 := cellB b2 a8;have a9 := cellB b2 a9;have e2 := e1.trans (b2.mono (by omega));have s2 := b2.size
   cases ib with
   | false =>
     go_wp2_with fail
     refine (HS.out w2 (b1.trans (b2.mono (by omega)))).mono ?_;rintro e w9 ⟨rfl, b9⟩
     go_wp2_with fail
     go_ret
     exact ⟨ret_bool HQ.out, e2.trans (b9.mono (by omega))⟩
   | true =>
     by_cases g0' : 0 ≤ g
     ·have dg0 : decide (0 ≤ g) = true := by simpa using g0'
      by_cases g1' : g < 4
      ·have dg1 : decide (g < 4) = true := by simpa using g1'
       go_wp2_with fail
       refine (HS.out w2 (b1.trans (b2.mono (by omega)))).mono ?_;rintro e w9 ⟨rfl, b9⟩
       go_wp2_with fail
       go_ret
       exact ⟨ret_bool HQ.out, e2.trans (b9.mono (by omega))⟩
      ·have dg1 : decide (g < 4) = false := by simpa using g1'
       go_wp2_with fail
       refine (HS.out w2 (b1.trans (b2.mono (by omega)))).mono ?_;rintro e w9 ⟨rfl, b9⟩
       go_wp2_with fail
       go_ret
       exact ⟨ret_bool HQ.out, e2.trans (b9.mono (by omega))⟩
     ·have dg0 : decide (0 ≤ g) = false := by simpa using g0'
      go_wp2_with fail
      refine (HS.out w2 (b1.trans (b2.mono (by omega)))).mono ?_;rintro e w9 ⟨rfl, b9⟩
      go_wp2_with fail
      go_ret
      exact ⟨ret_bool HQ.out, e2.trans (b9.mono (by omega))⟩
theorem rcf1 (s q : Int) (rs : List Rd1) (ws : List Wr1) (A1 : Option Addr) (c1 : Nat) (A2 : Option Addr) (c2 : Nat) (i j g : Int) (st : Nat) (y : Bool) (w : World) (B : Nat) (hB : B ≤ w.heap.size) (ok : TxOk w B rs ws A1 c1 A2 c2) :
 Calls Tryz.prog 51 #[.agg #[.int .i64 1, .int .i64 s, .int .i64 q, .slice A1 rs.length c1, .slice A2 ws.length c2, .int .i64 i, .int .i64 j, .int .i64 g, .int .u64 (st : Int), .bool y]] w fun e w' => e = .returned (.bool (T.cformed 1 s q rs ws i j g st y)) ∧ Below w.heap.size w w' := by
 obtain ⟨p, hp⟩ : ∃ p : Bool, p = (T.cformed 1 s q rs ws i j g st y) := ⟨_, rfl⟩;have HP := Lib.hid hp;rw [← hp];clear hp;obtain ⟨w0, hw0⟩ : ∃ w0, w0 = w.alloc (.cells #[.int .i64 1, .int .i64 s, .int .i64 q, .slice A1 rs.length c1, .slice A2 ws.length c2, .int .i64 i, .int .i64 j, .int .i64 g, .int .u64 (st : Int), .bool y] 45) := ⟨_, rfl⟩;(have g0 : Below w.heap.size w w0 := by rw [hw0]; exact (Below.refl _ _).alloc (Nat.le_refl _) _)
 obtain ⟨a0, a1, a2, a3, a4, a5, a6, a7, a8, a9⟩ : w0.cell? ⟨w.heap.size, 0, none⟩ = some (.int .i64 1) ∧ w0.cell? ⟨w.heap.size, 1, none⟩ = some (.int .i64 s) ∧ w0.cell? ⟨w.heap.size, 2, none⟩ = some (.int .i64 q) ∧ w0.cell? ⟨w.heap.size, 3, none⟩ = some (.slice A1 rs.length c1) ∧ w0.cell? ⟨w.heap.size, 4, none⟩ = some (.slice A2 ws.length c2) ∧ w0.cell? ⟨w.heap.size, 5, none⟩ = some (.int .i64 i) ∧ w0.cell? ⟨w.heap.size, 6, none⟩ = some (.int .i64 j) ∧ w0.cell? ⟨w.heap.size, 7, none⟩ = some (.int .i64 g) ∧ w0.cell? ⟨w.heap.size, 8, none⟩ = some (.int .u64 (st : Int)) ∧ w0.cell? ⟨w.heap.size, 9, none⟩ = some (.bool y) := by
  rw [hw0]; exact ⟨by simp, by simp, by simp, by simp, by simp, by simp, by simp, by simp, by simp, by simp⟩
 have gB := g0.size;have HO := Lib.hid (ok.below g0 hB);clear ok;have H0 := Lib.hid (rtsame_any s q rs ws A1 c1 A2 c2 0 0 [] [] none 0 none 0 w0 B (by omega) HO.out TxOk.zero);obtain ⟨no, hno⟩ : ∃ no, no = decide (s = 0 ∧ q = 0 ∧ rs = [] ∧ ws = []) := ⟨_, rfl⟩;have HNO := Lib.hid hno;rw [← hno] at H0;simp only [List.length_nil] at H0;have H1 := Lib.hid (fun z => rtid_any i j z);obtain ⟨ib, hib⟩ : ∃ ib, ib = idb i j := ⟨_, rfl⟩;have HIB := Lib.hid hib;rw [← hib] at H1;clear hno hib;have HS := Lib.hid (fun z (hz : Below w0.heap.size w0 z) => rtformed_any s q rs ws A1 c1 A2 c2 z B (by have := hz.size; omega) (HO.out.below hz (by omega)));obtain ⟨tf, htf⟩ : ∃ tf, tf = T.formed s q rs ws := ⟨_, rfl⟩;(have HQ1 : Hid (tf = false → false = p) := by show _ → _; intro h; rw [HP.out]; unfold T.cformed; rw [if_neg (by omega), if_pos rfl, ← htf, h]; rfl);(have HQ2 : Hid (¬ (i = 0 ∧ j = 0 ∧ g = 0 ∧ st = 0 ∧ y = false) → false = p) := by show _ → _; intro h; rw [HP.out]; unfold T.cformed; rw [if_neg (by omega), if_pos rfl, decide_eq_false h]; simp);(have HQ3 : Hid (tf = true → i = 0 → j = 0 → g = 0 → st = 0 → y = false → true = p) := by show _ → _; intro h h1 h2 h3 h4 h5; rw [HP.out]; unfold T.cformed; rw [if_neg (by omega), if_pos rfl, ← htf, h, decide_eq_true ⟨h1, h2, h3, h4, h5⟩]; rfl);rw [← htf] at HS;clear HP htf;generalize rs.length = n1 at *;generalize ws.length = n2 at *
 go_enter Tryz.func51, Tryz.ntmps51
 go_upto_region 1 with fail
 rw [← hw0];clear hw0
 go_wp2_with fail
 refine H0.out.mono ?_;rintro e w1 ⟨rfl, b1⟩;clear H0;have a0 := cellB b1 a0;have a1 := cellB b1 a1;have a2 := cellB b1 a2;have a3 := cellB b1 a3;have a4 := cellB b1 a4;have a5 := cellB b1 a5;have a6 := cellB b1 a6;have a7 := cellB b1 a7;have a8 := cellB b1 a8;have a9 := cellB b1 a9;have e1 := g0.trans (b1.mono gB);have s1 := b1.size
 cases no with
 | false =>
   go_wp2_with fail
   refine (HS.out w1 b1).mono ?_;rintro e w9 ⟨rfl, b9⟩;have a0 := cellB b9 a0;have a1 := cellB b9 a1;have a2 := cellB b9 a2;have a3 := cellB b9 a3;have a4 := cellB b9 a4;have a5 := cellB b9 a5;have a6 := cellB b9 a6;have a7 := cellB b9 a7;have a8 := cellB b9 a8;have a9 := cellB b9 a9
   cases tf with
   | false =>
     have HR := Lib.hid (HQ1.out rfl);clear HQ1 HQ2 HQ3
     go_wp2_with fail
     go_ret
     exact ⟨ret_bool HR.out, e1.trans (b9.mono (by omega))⟩
   | true =>
     have hI := fun z => run_eqId i j 0 0 z
     cases hd : decide (i = 0 ∧ j = 0) with
     | false =>
       rw [hd] at hI;have HR := Lib.hid (HQ2.out fun h => of_decide_eq_false hd ⟨h.1, h.2.1⟩);clear HQ1 HQ2 HQ3 hd
       go_wp2_with fail
       go_ret
       exact ⟨ret_bool HR.out, e1.trans (b9.mono (by omega))⟩
     | true =>
       rw [hd] at hI;have hij := of_decide_eq_true hd
       by_cases hg : g = 0
       ·have dg : (g == 0) = true := by simp [hg]
        by_cases hst : st = 0
        ·have dst : ((st : Int) == 0) = true := by simp [hst]
         cases y with
         | true =>
           have HR := Lib.hid (HQ2.out fun h => Bool.noConfusion h.2.2.2.2);clear HQ1 HQ2 HQ3 hd hij
           go_wp2_with fail
           go_ret
           exact ⟨ret_bool HR.out, e1.trans (b9.mono (by omega))⟩
         | false =>
           have HR := Lib.hid (HQ3.out rfl hij.1 hij.2 hg hst rfl);clear HQ1 HQ2 HQ3 hd hij
           go_wp2_with fail
           go_ret
           exact ⟨ret_bool HR.out, e1.trans (b9.mono (by omega))⟩
        ·(have dst : ((st : Int) == 0) = false := by simp; omega);have HR := Lib.hid (HQ2.out fun h => hst h.2.2.2.1);clear HQ1 HQ2 HQ3 hd hij
         go_wp2_with fail
         go_ret
         exact ⟨ret_bool HR.out, e1.trans (b9.mono (by omega))⟩
       ·(have dg : (g == 0) = false := by simp [hg]);have HR := Lib.hid (HQ2.out fun h => hg h.2.2.1);clear HQ1 HQ2 HQ3 hd hij
        go_wp2_with fail
        go_ret
        exact ⟨ret_bool HR.out, e1.trans (b9.mono (by omega))⟩
 | true =>
   go_wp2_with fail
   refine (H1.out w1).mono ?_;rintro e w2 ⟨rfl, b2⟩;clear H1;have a0 := cellB b2 a0;have a1 := cellB b2 a1;have a2 := cellB b2 a2;have a3 := cellB b2 a3;have a4 := cellB b2 a4;have a5 := cellB b2 a5;have a6 := cellB b2 a6;have a7 := cellB b2 a7;have a8 := cellB b2 a8;have a9 := cellB b2 a9;have e2 := e1.trans (b2.mono (by omega));have s2 := b2.size
   cases ib with
   | false =>
     go_wp2_with fail
     refine (HS.out w2 (b1.trans (b2.mono (by omega)))).mono ?_;rintro e w9 ⟨rfl, b9⟩;have a0 := cellB b9 a0;have a1 := cellB b9 a1;have a2 := cellB b9 a2;have a3 := cellB b9 a3;have a4 := cellB b9 a4;have a5 := cellB b9 a5;have a6 := cellB b9 a6;have a7 := cellB b9 a7;have a8 := cellB b9 a8;have a9 := cellB b9 a9
     cases tf with
     | false =>
       have HR := Lib.hid (HQ1.out rfl);clear HQ1 HQ2 HQ3
       go_wp2_with fail
       go_ret
       exact ⟨ret_bool HR.out, e2.trans (b9.mono (by omega))⟩
     | true =>
       have hI := fun z => run_eqId i j 0 0 z
       cases hd : decide (i = 0 ∧ j = 0) with
       | false =>
         rw [hd] at hI;have HR := Lib.hid (HQ2.out fun h => of_decide_eq_false hd ⟨h.1, h.2.1⟩);clear HQ1 HQ2 HQ3 hd
         go_wp2_with fail
         go_ret
         exact ⟨ret_bool HR.out, e2.trans (b9.mono (by omega))⟩
       | true =>
         rw [hd] at hI;have hij := of_decide_eq_true hd
         by_cases hg : g = 0
         ·have dg : (g == 0) = true := by simp [hg]
          by_cases hst : st = 0
          ·have dst : ((st : Int) == 0) = true := by simp [hst]
           cases y with
           | true =>
             have HR := Lib.hid (HQ2.out fun h => Bool.noConfusion h.2.2.2.2);clear HQ1 HQ2 HQ3 hd hij
             go_wp2_with fail
             go_ret
             exact ⟨ret_bool HR.out, e2.trans (b9.mono (by omega))⟩
           | false =>
             have HR := Lib.hid (HQ3.out rfl hij.1 hij.2 hg hst rfl);clear HQ1 HQ2 HQ3 hd hij
             go_wp2_with fail
             go_ret
             exact ⟨ret_bool HR.out, e2.trans (b9.mono (by omega))⟩
          ·(have dst : ((st : Int) == 0) = false := by simp; omega);have HR := Lib.hid (HQ2.out fun h => hst h.2.2.2.1);clear HQ1 HQ2 HQ3 hd hij
           go_wp2_with fail
           go_ret
           exact ⟨ret_bool HR.out, e2.trans (b9.mono (by omega))⟩
         ·(have dg : (g == 0) = false := by simp [hg]);have HR := Lib.hid (HQ2.out fun h => hg h.2.2.1);clear HQ1 HQ2 HQ3 hd hij
          go_wp2_with fail
          go_ret
          exact ⟨ret_bool HR.out, e2.trans (b9.mono (by omega))⟩
   | true =>
     by_cases g0' : 0 ≤ g
     ·have dg0 : decide (0 ≤ g) = true := by simpa using g0'
      by_cases g1' : g < 4
      ·have dg1 : decide (g < 4) = true := by simpa using g1'
       go_wp2_with fail
       refine (HS.out w2 (b1.trans (b2.mono (by omega)))).mono ?_;rintro e w9 ⟨rfl, b9⟩;have a0 := cellB b9 a0;have a1 := cellB b9 a1;have a2 := cellB b9 a2;have a3 := cellB b9 a3;have a4 := cellB b9 a4;have a5 := cellB b9 a5;have a6 := cellB b9 a6;have a7 := cellB b9 a7;have a8 := cellB b9 a8;have a9 := cellB b9 a9
       cases tf with
       | false =>
         have HR := Lib.hid (HQ1.out rfl);clear HQ1 HQ2 HQ3
         go_wp2_with fail
         go_ret
         exact ⟨ret_bool HR.out, e2.trans (b9.mono (by omega))⟩
       | true =>
         have hI := fun z => run_eqId i j 0 0 z
         cases hd : decide (i = 0 ∧ j = 0) with
         | false =>
           rw [hd] at hI;have HR := Lib.hid (HQ2.out fun h => of_decide_eq_false hd ⟨h.1, h.2.1⟩);clear HQ1 HQ2 HQ3 hd
           go_wp2_with fail
           go_ret
           exact ⟨ret_bool HR.out, e2.trans (b9.mono (by omega))⟩
         | true =>
           rw [hd] at hI;have hij := of_decide_eq_true hd
           by_cases hg : g = 0
           ·have dg : (g == 0) = true := by simp [hg]
            by_cases hst : st = 0
            ·have dst : ((st : Int) == 0) = true := by simp [hst]
             cases y with
             | true =>
               have HR := Lib.hid (HQ2.out fun h => Bool.noConfusion h.2.2.2.2);clear HQ1 HQ2 HQ3 hd hij
               go_wp2_with fail
               go_ret
               exact ⟨ret_bool HR.out, e2.trans (b9.mono (by omega))⟩
             | false =>
               have HR := Lib.hid (HQ3.out rfl hij.1 hij.2 hg hst rfl);clear HQ1 HQ2 HQ3 hd hij
               go_wp2_with fail
               go_ret
               exact ⟨ret_bool HR.out, e2.trans (b9.mono (by omega))⟩
            ·(have dst : ((st : Int) == 0) = false := by simp; omega);have HR := Lib.hid (HQ2.out fun h => hst h.2.2.2.1);clear HQ1 HQ2 HQ3 hd hij
             go_wp2_with fail
             go_ret
             exact ⟨ret_bool HR.out, e2.trans (b9.mono (by omega))⟩
           ·(have dg : (g == 0) = false := by simp [hg]);have HR := Lib.hid (HQ2.out fun h => hg h.2.2.1);clear HQ1 HQ2 HQ3 hd hij
            go_wp2_with fail
            go_ret
            exact ⟨ret_bool HR.out, e2.trans (b9.mono (by omega))⟩
      ·have dg1 : decide (g < 4) = false := by simpa using g1'
       go_wp2_with fail
       refine (HS.out w2 (b1.trans (b2.mono (by omega)))).mono ?_;rintro e w9 ⟨rfl, b9⟩;have a0 := cellB b9 a0;have a1 := cellB b9 a1;have a2 := cellB b9 a2;have a3 := cellB b9 a3;have a4 := cellB b9 a4;have a5 := cellB b9 a5;have a6 := cellB b9 a6;have a7 := cellB b9 a7;have a8 := cellB b9 a8;have a9 := cellB b9 a9
       cases tf with
       | false =>
         have HR := Lib.hid (HQ1.out rfl);clear HQ1 HQ2 HQ3
         go_wp2_with fail
         go_ret
         exact ⟨ret_bool HR.out, e2.trans (b9.mono (by omega))⟩
       | true =>
         have hI := fun z => run_eqId i j 0 0 z
         cases hd : decide (i = 0 ∧ j = 0) with
         | false =>
           rw [hd] at hI;have HR := Lib.hid (HQ2.out fun h => of_decide_eq_false hd ⟨h.1, h.2.1⟩);clear HQ1 HQ2 HQ3 hd
           go_wp2_with fail
           go_ret
           exact ⟨ret_bool HR.out, e2.trans (b9.mono (by omega))⟩
         | true =>
           rw [hd] at hI;have hij := of_decide_eq_true hd;(have hg : ¬ g = 0 := by omega);(have dg : (g == 0) = false := by simp [hg]);have HR := Lib.hid (HQ2.out fun h => hg h.2.2.1);clear HQ1 HQ2 HQ3 hd hij
           go_wp2_with fail
           go_ret
           exact ⟨ret_bool HR.out, e2.trans (b9.mono (by omega))⟩
     ·have dg0 : decide (0 ≤ g) = false := by simpa using g0'
      go_wp2_with fail
      refine (HS.out w2 (b1.trans (b2.mono (by omega)))).mono ?_;rintro e w9 ⟨rfl, b9⟩;have a0 := cellB b9 a0;have a1 := cellB b9 a1;have a2 := cellB b9 a2;have a3 := cellB b9 a3;have a4 := cellB b9 a4;have a5 := cellB b9 a5;have a6 := cellB b9 a6;have a7 := cellB b9 a7;have a8 := cellB b9 a8;have a9 := cellB b9 a9
      cases tf with
      | false =>
        have HR := Lib.hid (HQ1.out rfl);clear HQ1 HQ2 HQ3
        go_wp2_with fail
        go_ret
        exact ⟨ret_bool HR.out, e2.trans (b9.mono (by omega))⟩
      | true =>
        have hI := fun z => run_eqId i j 0 0 z
        cases hd : decide (i = 0 ∧ j = 0) with
        | false =>
          rw [hd] at hI;have HR := Lib.hid (HQ2.out fun h => of_decide_eq_false hd ⟨h.1, h.2.1⟩);clear HQ1 HQ2 HQ3 hd
          go_wp2_with fail
          go_ret
          exact ⟨ret_bool HR.out, e2.trans (b9.mono (by omega))⟩
        | true =>
          rw [hd] at hI;have hij := of_decide_eq_true hd;(have hg : ¬ g = 0 := by omega);(have dg : (g == 0) = false := by simp [hg]);have HR := Lib.hid (HQ2.out fun h => hg h.2.2.1);clear HQ1 HQ2 HQ3 hd hij
          go_wp2_with fail
          go_ret
          exact ⟨ret_bool HR.out, e2.trans (b9.mono (by omega))⟩
theorem rcf2 (s q : Int) (rs : List Rd1) (ws : List Wr1) (A1 : Option Addr) (c1 : Nat) (A2 : Option Addr) (c2 : Nat) (i j g : Int) (st : Nat) (y : Bool) (w : World) (B : Nat) (hB : B ≤ w.heap.size) (ok : TxOk w B rs ws A1 c1 A2 c2) :
 Calls Tryz.prog 51 #[.agg #[.int .i64 2, .int .i64 s, .int .i64 q, .slice A1 rs.length c1, .slice A2 ws.length c2, .int .i64 i, .int .i64 j, .int .i64 g, .int .u64 (st : Int), .bool y]] w fun e w' => e = .returned (.bool (T.cformed 2 s q rs ws i j g st y)) ∧ Below w.heap.size w w' := by
 obtain ⟨p, hp⟩ : ∃ p : Bool, p = (T.cformed 2 s q rs ws i j g st y) := ⟨_, rfl⟩;have HP := Lib.hid hp;rw [← hp];clear hp;obtain ⟨w0, hw0⟩ : ∃ w0, w0 = w.alloc (.cells #[.int .i64 2, .int .i64 s, .int .i64 q, .slice A1 rs.length c1, .slice A2 ws.length c2, .int .i64 i, .int .i64 j, .int .i64 g, .int .u64 (st : Int), .bool y] 45) := ⟨_, rfl⟩;(have g0 : Below w.heap.size w w0 := by rw [hw0]; exact (Below.refl _ _).alloc (Nat.le_refl _) _)
 obtain ⟨a0, a1, a2, a3, a4, a5, a6, a7, a8, a9⟩ : w0.cell? ⟨w.heap.size, 0, none⟩ = some (.int .i64 2) ∧ w0.cell? ⟨w.heap.size, 1, none⟩ = some (.int .i64 s) ∧ w0.cell? ⟨w.heap.size, 2, none⟩ = some (.int .i64 q) ∧ w0.cell? ⟨w.heap.size, 3, none⟩ = some (.slice A1 rs.length c1) ∧ w0.cell? ⟨w.heap.size, 4, none⟩ = some (.slice A2 ws.length c2) ∧ w0.cell? ⟨w.heap.size, 5, none⟩ = some (.int .i64 i) ∧ w0.cell? ⟨w.heap.size, 6, none⟩ = some (.int .i64 j) ∧ w0.cell? ⟨w.heap.size, 7, none⟩ = some (.int .i64 g) ∧ w0.cell? ⟨w.heap.size, 8, none⟩ = some (.int .u64 (st : Int)) ∧ w0.cell? ⟨w.heap.size, 9, none⟩ = some (.bool y) := by
  rw [hw0]; exact ⟨by simp, by simp, by simp, by simp, by simp, by simp, by simp, by simp, by simp, by simp⟩
 have gB := g0.size;have HO := Lib.hid (ok.below g0 hB);clear ok;have H0 := Lib.hid (rtsame_any s q rs ws A1 c1 A2 c2 0 0 [] [] none 0 none 0 w0 B (by omega) HO.out TxOk.zero);obtain ⟨no, hno⟩ : ∃ no, no = decide (s = 0 ∧ q = 0 ∧ rs = [] ∧ ws = []) := ⟨_, rfl⟩;have HNO := Lib.hid hno;rw [← hno] at H0;simp only [List.length_nil] at H0;have H1 := Lib.hid (fun z => rtid_any i j z);obtain ⟨ib, hib⟩ : ∃ ib, ib = idb i j := ⟨_, rfl⟩;have HIB := Lib.hid hib;rw [← hib] at H1;clear hno hib
 have HC : T.cformed 2 s q rs ws i j g st y = decide (no = true ∧ ib = true ∧ 0 ≤ g ∧ g < 4 ∧ y = false ∧ 1 ≤ st ∧ st < 9223372036854775808) := by
  unfold T.cformed; rw [if_neg (by omega), if_neg (by omega), if_pos rfl];rw [Bool.eq_iff_iff, Bool.and_eq_true, Bool.and_eq_true, decide_eq_true_eq, decide_eq_true_eq, decide_eq_true_eq, HNO.out, HIB.out, decide_eq_true_eq];exact ⟨fun ⟨⟨⟨h1, h2, h3, h4, h5⟩, h6⟩, h7, h8, h9, h10⟩ => ⟨⟨h1, h2, h3, h4⟩, h6, h7, h8, h5, h9, h10⟩, fun ⟨⟨h1, h2, h3, h4⟩, h6, h7, h8, h5, h9, h10⟩ => ⟨⟨⟨h1, h2, h3, h4, h5⟩, h6⟩, h7, h8, h9, h10⟩⟩
 (have HF : Hid (¬ (no = true ∧ ib = true ∧ 0 ≤ g ∧ g < 4 ∧ y = false ∧ 1 ≤ st ∧ st < 9223372036854775808) → false = p) := by show _ → _; intro h; rw [HP.out, HC, decide_eq_false h]);(have HT : Hid ((no = true ∧ ib = true ∧ 0 ≤ g ∧ g < 4 ∧ y = false ∧ 1 ≤ st ∧ st < 9223372036854775808) → true = p) := by show _ → _; intro h; rw [HP.out, HC, decide_eq_true h]);clear HP HC HNO HIB;generalize rs.length = n1 at *;generalize ws.length = n2 at *
 go_enter Tryz.func51, Tryz.ntmps51
 go_upto_region 1 with fail
 rw [← hw0];clear hw0
 go_wp2_with fail
 refine H0.out.mono ?_;rintro e w1 ⟨rfl, b1⟩;clear H0;have a0 := cellB b1 a0;have a1 := cellB b1 a1;have a2 := cellB b1 a2;have a3 := cellB b1 a3;have a4 := cellB b1 a4;have a5 := cellB b1 a5;have a6 := cellB b1 a6;have a7 := cellB b1 a7;have a8 := cellB b1 a8;have a9 := cellB b1 a9;have e1 := g0.trans (b1.mono gB);have s1 := b1.size
 cases no with
 | false =>
   have HR := Lib.hid (HF.out fun h => Bool.noConfusion h.1);clear HF HT
   go_wp2_with fail
   go_ret
   exact ⟨ret_bool HR.out, e1⟩
 | true =>
   go_wp2_with fail
   refine (H1.out w1).mono ?_;rintro e w2 ⟨rfl, b2⟩;clear H1;have a0 := cellB b2 a0;have a1 := cellB b2 a1;have a2 := cellB b2 a2;have a3 := cellB b2 a3;have a4 := cellB b2 a4;have a5 := cellB b2 a5;have a6 := cellB b2 a6;have a7 := cellB b2 a7;have a8 := cellB b2 a8;have a9 := cellB b2 a9;have e2 := e1.trans (b2.mono (by omega));have s2 := b2.size
   cases ib with
   | false =>
     have HR := Lib.hid (HF.out fun h => Bool.noConfusion h.2.1);clear HF HT
     go_wp2_with fail
     go_ret
     exact ⟨ret_bool HR.out, e2⟩
   | true =>
     by_cases g0' : 0 ≤ g
     ·have dg0 : decide (0 ≤ g) = true := by simpa using g0'
      by_cases g1' : g < 4
      ·have dg1 : decide (g < 4) = true := by simpa using g1'
       cases y with
       | true =>
         have HR := Lib.hid (HF.out fun h => Bool.noConfusion h.2.2.2.2.1);clear HF HT
         go_wp2_with fail
         go_ret
         exact ⟨ret_bool HR.out, e2⟩
       | false =>
         by_cases h1 : 1 ≤ st
         ·(have d1 : decide (0 < (st : Int)) = true := by simp; omega);(have d1' : 0 < st := by omega)
          by_cases h2 : st < 9223372036854775808
          ·have d2 : decide ((st : Int) ≤ 9223372036854775807) = true := by simp; omega
           have HR := Lib.hid (HT.out ⟨(by first | exact rfl | trivial), (by first | exact rfl | trivial), g0', g1', (by first | exact rfl | trivial), h1, h2⟩)
           clear HF HT
           go_wp2_with fail
           go_ret
           exact ⟨ret_bool HR.out, e2⟩
          ·(have d2 : decide ((st : Int) ≤ 9223372036854775807) = false := by simp; omega);have HR := Lib.hid (HF.out fun h => h2 h.2.2.2.2.2.2);clear HF HT
           go_wp2_with fail
           go_ret
           exact ⟨ret_bool HR.out, e2⟩
         ·(have d1 : decide (0 < (st : Int)) = false := by simp; omega);(have d1' : st = 0 := by omega);have HR := Lib.hid (HF.out fun h => h1 h.2.2.2.2.2.1);clear HF HT
          go_wp2_with fail
          go_ret
          exact ⟨ret_bool HR.out, e2⟩
      ·(have dg1 : decide (g < 4) = false := by simpa using g1');have HR := Lib.hid (HF.out fun h => g1' h.2.2.2.1);clear HF HT
       go_wp2_with fail
       go_ret
       exact ⟨ret_bool HR.out, e2⟩
     ·(have dg0 : decide (0 ≤ g) = false := by simpa using g0');have HR := Lib.hid (HF.out fun h => g0' h.2.2.1);clear HF HT
      go_wp2_with fail
      go_ret
      exact ⟨ret_bool HR.out, e2⟩
theorem rcf3 (s q : Int) (rs : List Rd1) (ws : List Wr1) (A1 : Option Addr) (c1 : Nat) (A2 : Option Addr) (c2 : Nat) (i j g : Int) (st : Nat) (y : Bool) (w : World) (B : Nat) (hB : B ≤ w.heap.size) (ok : TxOk w B rs ws A1 c1 A2 c2) :
 Calls Tryz.prog 51 #[.agg #[.int .i64 3, .int .i64 s, .int .i64 q, .slice A1 rs.length c1, .slice A2 ws.length c2, .int .i64 i, .int .i64 j, .int .i64 g, .int .u64 (st : Int), .bool y]] w fun e w' => e = .returned (.bool (T.cformed 3 s q rs ws i j g st y)) ∧ Below w.heap.size w w' := by
 obtain ⟨p, hp⟩ : ∃ p : Bool, p = (T.cformed 3 s q rs ws i j g st y) := ⟨_, rfl⟩;have HP := Lib.hid hp;rw [← hp];clear hp;obtain ⟨w0, hw0⟩ : ∃ w0, w0 = w.alloc (.cells #[.int .i64 3, .int .i64 s, .int .i64 q, .slice A1 rs.length c1, .slice A2 ws.length c2, .int .i64 i, .int .i64 j, .int .i64 g, .int .u64 (st : Int), .bool y] 45) := ⟨_, rfl⟩;(have g0 : Below w.heap.size w w0 := by rw [hw0]; exact (Below.refl _ _).alloc (Nat.le_refl _) _)
 obtain ⟨a0, a1, a2, a3, a4, a5, a6, a7, a8, a9⟩ : w0.cell? ⟨w.heap.size, 0, none⟩ = some (.int .i64 3) ∧ w0.cell? ⟨w.heap.size, 1, none⟩ = some (.int .i64 s) ∧ w0.cell? ⟨w.heap.size, 2, none⟩ = some (.int .i64 q) ∧ w0.cell? ⟨w.heap.size, 3, none⟩ = some (.slice A1 rs.length c1) ∧ w0.cell? ⟨w.heap.size, 4, none⟩ = some (.slice A2 ws.length c2) ∧ w0.cell? ⟨w.heap.size, 5, none⟩ = some (.int .i64 i) ∧ w0.cell? ⟨w.heap.size, 6, none⟩ = some (.int .i64 j) ∧ w0.cell? ⟨w.heap.size, 7, none⟩ = some (.int .i64 g) ∧ w0.cell? ⟨w.heap.size, 8, none⟩ = some (.int .u64 (st : Int)) ∧ w0.cell? ⟨w.heap.size, 9, none⟩ = some (.bool y) := by
  rw [hw0]; exact ⟨by simp, by simp, by simp, by simp, by simp, by simp, by simp, by simp, by simp, by simp⟩
 have gB := g0.size;have HO := Lib.hid (ok.below g0 hB);clear ok;have H0 := Lib.hid (rtsame_any s q rs ws A1 c1 A2 c2 0 0 [] [] none 0 none 0 w0 B (by omega) HO.out TxOk.zero);obtain ⟨no, hno⟩ : ∃ no, no = decide (s = 0 ∧ q = 0 ∧ rs = [] ∧ ws = []) := ⟨_, rfl⟩;have HNO := Lib.hid hno;rw [← hno] at H0;simp only [List.length_nil] at H0;have H1 := Lib.hid (fun z => rtid_any i j z);obtain ⟨ib, hib⟩ : ∃ ib, ib = idb i j := ⟨_, rfl⟩;have HIB := Lib.hid hib;rw [← hib] at H1;clear hno hib
 have HC : T.cformed 3 s q rs ws i j g st y = decide (no = true ∧ ib = true ∧ 0 ≤ g ∧ g < 4 ∧ st = 0) := by
  unfold T.cformed; rw [if_neg (by omega), if_neg (by omega), if_neg (by omega), if_pos rfl];rw [Bool.eq_iff_iff, Bool.and_eq_true, Bool.and_eq_true, decide_eq_true_eq, decide_eq_true_eq, decide_eq_true_eq, HNO.out, HIB.out, decide_eq_true_eq];exact ⟨fun ⟨⟨⟨h1, h2, h3, h4, h5⟩, h6⟩, h7, h8⟩ => ⟨⟨h1, h2, h3, h4⟩, h6, h7, h8, h5⟩, fun ⟨⟨h1, h2, h3, h4⟩, h6, h7, h8, h5⟩ => ⟨⟨⟨h1, h2, h3, h4, h5⟩, h6⟩, h7, h8⟩⟩
 (have HF : Hid (¬ (no = true ∧ ib = true ∧ 0 ≤ g ∧ g < 4 ∧ st = 0) → false = p) := by show _ → _; intro h; rw [HP.out, HC, decide_eq_false h]);(have HT : Hid ((no = true ∧ ib = true ∧ 0 ≤ g ∧ g < 4 ∧ st = 0) → true = p) := by show _ → _; intro h; rw [HP.out, HC, decide_eq_true h]);clear HP HC HNO HIB;generalize rs.length = n1 at *;generalize ws.length = n2 at *
 go_enter Tryz.func51, Tryz.ntmps51
 go_upto_region 1 with fail
 rw [← hw0];clear hw0
 go_wp2_with fail
 refine H0.out.mono ?_;rintro e w1 ⟨rfl, b1⟩;clear H0;have a0 := cellB b1 a0;have a1 := cellB b1 a1;have a2 := cellB b1 a2;have a3 := cellB b1 a3;have a4 := cellB b1 a4;have a5 := cellB b1 a5;have a6 := cellB b1 a6;have a7 := cellB b1 a7;have a8 := cellB b1 a8;have a9 := cellB b1 a9;have e1 := g0.trans (b1.mono gB);have s1 := b1.size
 cases no with
 | false =>
   have HR := Lib.hid (HF.out fun h => Bool.noConfusion h.1);clear HF HT
   go_wp2_with fail
   go_ret
   exact ⟨ret_bool HR.out, e1⟩
 | true =>
   go_wp2_with fail
   refine (H1.out w1).mono ?_;rintro e w2 ⟨rfl, b2⟩;clear H1;have a0 := cellB b2 a0;have a1 := cellB b2 a1;have a2 := cellB b2 a2;have a3 := cellB b2 a3;have a4 := cellB b2 a4;have a5 := cellB b2 a5;have a6 := cellB b2 a6;have a7 := cellB b2 a7;have a8 := cellB b2 a8;have a9 := cellB b2 a9;have e2 := e1.trans (b2.mono (by omega));have s2 := b2.size
   cases ib with
   | false =>
     have HR := Lib.hid (HF.out fun h => Bool.noConfusion h.2.1);clear HF HT
     go_wp2_with fail
     go_ret
     exact ⟨ret_bool HR.out, e2⟩
   | true =>
     by_cases g0' : 0 ≤ g
     ·have dg0 : decide (0 ≤ g) = true := by simpa using g0'
      by_cases g1' : g < 4
      ·have dg1 : decide (g < 4) = true := by simpa using g1'
       by_cases hst : st = 0
       ·have dst : ((st : Int) == 0) = true := by simp [hst]
        have HR := Lib.hid (HT.out ⟨(by first | exact rfl | trivial), (by first | exact rfl | trivial), g0', g1', hst⟩)
        clear HF HT
        go_wp2_with fail
        go_ret
        exact ⟨ret_bool HR.out, e2⟩
       ·(have dst : ((st : Int) == 0) = false := by simp; omega);have HR := Lib.hid (HF.out fun h => hst h.2.2.2.2);clear HF HT
        go_wp2_with fail
        go_ret
        exact ⟨ret_bool HR.out, e2⟩
      ·(have dg1 : decide (g < 4) = false := by simpa using g1');have HR := Lib.hid (HF.out fun h => g1' h.2.2.2.1);clear HF HT
       go_wp2_with fail
       go_ret
       exact ⟨ret_bool HR.out, e2⟩
     ·(have dg0 : decide (0 ≤ g) = false := by simpa using g0');have HR := Lib.hid (HF.out fun h => g0' h.2.2.1);clear HF HT
      go_wp2_with fail
      go_ret
      exact ⟨ret_bool HR.out, e2⟩
theorem rcf4 (k : Int) (k0 : ¬ k = 0) (k1 : ¬ k = 1) (k2 : ¬ k = 2) (k3 : ¬ k = 3) (s q : Int) (rs : List Rd1) (ws : List Wr1) (A1 : Option Addr) (c1 : Nat) (A2 : Option Addr) (c2 : Nat) (i j g : Int) (st : Nat) (y : Bool) (w : World) (B : Nat) (hB : B ≤ w.heap.size) (ok : TxOk w B rs ws A1 c1 A2 c2) :
 Calls Tryz.prog 51 #[.agg #[.int .i64 k, .int .i64 s, .int .i64 q, .slice A1 rs.length c1, .slice A2 ws.length c2, .int .i64 i, .int .i64 j, .int .i64 g, .int .u64 (st : Int), .bool y]] w fun e w' => e = .returned (.bool (T.cformed k s q rs ws i j g st y)) ∧ Below w.heap.size w w' := by
 obtain ⟨p, hp⟩ : ∃ p : Bool, p = (T.cformed k s q rs ws i j g st y) := ⟨_, rfl⟩;have HP := Lib.hid hp;rw [← hp];clear hp;obtain ⟨w0, hw0⟩ : ∃ w0, w0 = w.alloc (.cells #[.int .i64 k, .int .i64 s, .int .i64 q, .slice A1 rs.length c1, .slice A2 ws.length c2, .int .i64 i, .int .i64 j, .int .i64 g, .int .u64 (st : Int), .bool y] 45) := ⟨_, rfl⟩;(have g0 : Below w.heap.size w w0 := by rw [hw0]; exact (Below.refl _ _).alloc (Nat.le_refl _) _)
 obtain ⟨a0, a1, a2, a3, a4, a5, a6, a7, a8, a9⟩ : w0.cell? ⟨w.heap.size, 0, none⟩ = some (.int .i64 k) ∧ w0.cell? ⟨w.heap.size, 1, none⟩ = some (.int .i64 s) ∧ w0.cell? ⟨w.heap.size, 2, none⟩ = some (.int .i64 q) ∧ w0.cell? ⟨w.heap.size, 3, none⟩ = some (.slice A1 rs.length c1) ∧ w0.cell? ⟨w.heap.size, 4, none⟩ = some (.slice A2 ws.length c2) ∧ w0.cell? ⟨w.heap.size, 5, none⟩ = some (.int .i64 i) ∧ w0.cell? ⟨w.heap.size, 6, none⟩ = some (.int .i64 j) ∧ w0.cell? ⟨w.heap.size, 7, none⟩ = some (.int .i64 g) ∧ w0.cell? ⟨w.heap.size, 8, none⟩ = some (.int .u64 (st : Int)) ∧ w0.cell? ⟨w.heap.size, 9, none⟩ = some (.bool y) := by
  rw [hw0]; exact ⟨by simp, by simp, by simp, by simp, by simp, by simp, by simp, by simp, by simp, by simp⟩
 have gB := g0.size;have HO := Lib.hid (ok.below g0 hB);clear ok;have H0 := Lib.hid (rtsame_any s q rs ws A1 c1 A2 c2 0 0 [] [] none 0 none 0 w0 B (by omega) HO.out TxOk.zero);obtain ⟨no, hno⟩ : ∃ no, no = decide (s = 0 ∧ q = 0 ∧ rs = [] ∧ ws = []) := ⟨_, rfl⟩;have HNO := Lib.hid hno;rw [← hno] at H0;simp only [List.length_nil] at H0;have H1 := Lib.hid (fun z => rtid_any i j z);obtain ⟨ib, hib⟩ : ∃ ib, ib = idb i j := ⟨_, rfl⟩;have HIB := Lib.hid hib;rw [← hib] at H1;clear hno hib;(have HR : Hid (false = p) := by show _ = _; rw [HP.out]; unfold T.cformed; rw [if_neg k0, if_neg k1, if_neg k2, if_neg k3]);(have d0 : (k == 0) = false := by simp [k0]);(have d1 : (k == 1) = false := by simp [k1]);(have d2 : (k == 2) = false := by simp [k2]);(have d3 : (k == 3) = false := by simp [k3]);generalize rs.length = n1 at *;generalize ws.length = n2 at *
 go_enter Tryz.func51, Tryz.ntmps51
 go_upto_region 1 with fail
 rw [← hw0];clear hw0
 go_wp2_with fail
 refine H0.out.mono ?_;rintro e w1 ⟨rfl, b1⟩;clear H0;have a0 := cellB b1 a0;have a1 := cellB b1 a1;have a2 := cellB b1 a2;have a3 := cellB b1 a3;have a4 := cellB b1 a4;have a5 := cellB b1 a5;have a6 := cellB b1 a6;have a7 := cellB b1 a7;have a8 := cellB b1 a8;have a9 := cellB b1 a9;have e1 := g0.trans (b1.mono gB);have s1 := b1.size
 cases no with
 | false =>
   go_wp2_with fail
   go_ret
   exact ⟨ret_bool HR.out, e1⟩
 | true =>
   go_wp2_with fail
   refine (H1.out w1).mono ?_;rintro e w2 ⟨rfl, b2⟩;clear H1;have a0 := cellB b2 a0;have a1 := cellB b2 a1;have a2 := cellB b2 a2;have a3 := cellB b2 a3;have a4 := cellB b2 a4;have a5 := cellB b2 a5;have a6 := cellB b2 a6;have a7 := cellB b2 a7;have a8 := cellB b2 a8;have a9 := cellB b2 a9;have e2 := e1.trans (b2.mono (by omega));have s2 := b2.size
   cases ib with
   | false =>
     go_wp2_with fail
     go_ret
     exact ⟨ret_bool HR.out, e2⟩
   | true =>
     by_cases g0' : 0 ≤ g
     ·have dg0 : decide (0 ≤ g) = true := by simpa using g0'
      by_cases g1' : g < 4
      ·have dg1 : decide (g < 4) = true := by simpa using g1'
       go_wp2_with fail
       go_ret
       exact ⟨ret_bool HR.out, e2⟩
      ·have dg1 : decide (g < 4) = false := by simpa using g1'
       go_wp2_with fail
       go_ret
       exact ⟨ret_bool HR.out, e2⟩
     ·have dg0 : decide (0 ≤ g) = false := by simpa using g0'
      go_wp2_with fail
      go_ret
      exact ⟨ret_bool HR.out, e2⟩
theorem rcformed_any (k : Int) (s q : Int) (rs : List Rd1) (ws : List Wr1) (A1 : Option Addr) (c1 : Nat) (A2 : Option Addr) (c2 : Nat) (i j g : Int) (st : Nat) (y : Bool) (w : World) (B : Nat) (hB : B ≤ w.heap.size) (ok : TxOk w B rs ws A1 c1 A2 c2) :
 Calls Tryz.prog 51 #[.agg #[.int .i64 k, .int .i64 s, .int .i64 q, .slice A1 rs.length c1, .slice A2 ws.length c2, .int .i64 i, .int .i64 j, .int .i64 g, .int .u64 (st : Int), .bool y]] w fun e w' => e = .returned (.bool (T.cformed k s q rs ws i j g st y)) ∧ Below w.heap.size w w' := by
 by_cases k0 : k = 0
 ·subst k0; exact rcf0 s q rs ws A1 c1 A2 c2 i j g st y w B hB ok
 ·by_cases k1 : k = 1
  ·subst k1; exact rcf1 s q rs ws A1 c1 A2 c2 i j g st y w B hB ok
  ·by_cases k2 : k = 2
   ·subst k2; exact rcf2 s q rs ws A1 c1 A2 c2 i j g st y w B hB ok
   ·by_cases k3 : k = 3
    ·subst k3; exact rcf3 s q rs ws A1 c1 A2 c2 i j g st y w B hB ok
    ·exact rcf4 k k0 k1 k2 k3 s q rs ws A1 c1 A2 c2 i j g st y w B hB ok
end Go.Proofs.YthclniimhpmeoaaGreatDoor
