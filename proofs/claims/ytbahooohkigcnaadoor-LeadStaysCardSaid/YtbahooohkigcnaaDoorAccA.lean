/- The walks of accept.Formed and of the reference's. Conditions: what lies, lies below; the tables lie. (Printed by gen_acc.py.) -/
import Derived.Test.YtbahooohkigcnaaDoorTxnF
import Derived.Test.YtbahooohkigcnaaDoorTxnI
import Derived.Test.YtbahooohkigcnaaDoorBal
namespace Go.Proofs.YtbahooohkigcnaaDoor
set_option maxRecDepth 20000
open Go.RowKit T
set_option linter.unusedSimpArgs false
set_option linter.unusedVariables false

/-- what the chapter says of acceptors -/
def T.aformed (pr : Nat) (pn sl : Int) (ha : Bool) (vr : Nat) (vn : Int) (k s q : Int) (rs : List Rd1) (ws : List Wr1) (i j g : Int) (st : Nat) (y : Bool) : Bool :=
  B.formed pn && decide (1 ≤ sl ∧ sl ≤ 1000000) && (bif ha then (B.formed vn && !B.less pr pn vr vn && T.cformed k s q rs ws i j g st y)
    else (decide (vr = 0 ∧ vn = 0) && decide (k = 0 ∧ (i = 0 ∧ j = 0) ∧ g = 0 ∧ st = 0 ∧ y = false ∧ s = 0 ∧ q = 0 ∧ rs = [] ∧ ws = [])))
set_option maxHeartbeats 6400000 in
theorem aformed_any (pr : Nat) (pn sl : Int) (ha : Bool) (vr : Nat) (vn : Int) (k s q : Int) (rs : List Rd1) (ws : List Wr1) (A1 : Option Addr) (c1 : Nat) (A2 : Option Addr) (c2 : Nat) (i j g : Int) (st : Nat) (y : Bool) (w : World) (B0 : Nat) (hB : B0 ≤ w.heap.size) (ok : TxOk w B0 rs ws A1 c1 A2 c2) (hT : Tabs w) :
    Calls Tryd.prog 20 #[.agg #[.int .u32 (pr : Int), .int .i64 pn, .int .i64 sl, .bool ha, .int .u32 (vr : Int), .int .i64 vn, .int .i64 k, .int .i64 s, .int .i64 q, .slice A1 rs.length c1, .slice A2 ws.length c2, .int .i64 i, .int .i64 j, .int .i64 g, .int .u64 (st : Int), .bool y]] w fun e w' => e = .returned (.bool (T.aformed pr pn sl ha vr vn k s q rs ws i j g st y)) ∧ Below w.heap.size w w' := by
  obtain ⟨p, hp⟩ : ∃ p : Bool, p = T.aformed pr pn sl ha vr vn k s q rs ws i j g st y := ⟨_, rfl⟩
  have HP := Lib.hid hp
  rw [← hp]
  clear hp
  obtain ⟨w0, hw0⟩ : ∃ w0, w0 = w.alloc (.cells #[.int .u32 (pr : Int), .int .i64 pn, .int .i64 sl, .bool ha, .int .u32 (vr : Int), .int .i64 vn, .int .i64 k, .int .i64 s, .int .i64 q, .slice A1 rs.length c1, .slice A2 ws.length c2, .int .i64 i, .int .i64 j, .int .i64 g, .int .u64 (st : Int), .bool y] 39) := ⟨_, rfl⟩
  have g0 : Below w.heap.size w w0 := by rw [hw0]; exact (Below.refl _ _).alloc (Nat.le_refl _) _
  obtain ⟨a0, a1, a2, a3, a4, a5, a6, a7, a8, a9, a10, a11, a12, a13, a14, a15⟩ : w0.cell? ⟨w.heap.size, 0, none⟩ = some (.int .u32 (pr : Int)) ∧ w0.cell? ⟨w.heap.size, 1, none⟩ = some (.int .i64 pn) ∧ w0.cell? ⟨w.heap.size, 2, none⟩ = some (.int .i64 sl) ∧ w0.cell? ⟨w.heap.size, 3, none⟩ = some (.bool ha) ∧ w0.cell? ⟨w.heap.size, 4, none⟩ = some (.int .u32 (vr : Int)) ∧ w0.cell? ⟨w.heap.size, 5, none⟩ = some (.int .i64 vn) ∧ w0.cell? ⟨w.heap.size, 6, none⟩ = some (.int .i64 k) ∧ w0.cell? ⟨w.heap.size, 7, none⟩ = some (.int .i64 s) ∧ w0.cell? ⟨w.heap.size, 8, none⟩ = some (.int .i64 q) ∧ w0.cell? ⟨w.heap.size, 9, none⟩ = some (.slice A1 rs.length c1) ∧ w0.cell? ⟨w.heap.size, 10, none⟩ = some (.slice A2 ws.length c2) ∧ w0.cell? ⟨w.heap.size, 11, none⟩ = some (.int .i64 i) ∧ w0.cell? ⟨w.heap.size, 12, none⟩ = some (.int .i64 j) ∧ w0.cell? ⟨w.heap.size, 13, none⟩ = some (.int .i64 g) ∧ w0.cell? ⟨w.heap.size, 14, none⟩ = some (.int .u64 (st : Int)) ∧ w0.cell? ⟨w.heap.size, 15, none⟩ = some (.bool y) := by
    rw [hw0]; exact ⟨by simp, by simp, by simp, by simp, by simp, by simp, by simp, by simp, by simp, by simp, by simp, by simp, by simp, by simp, by simp, by simp⟩
  have gB := g0.size
  have HO := Lib.hid (ok.below g0 hB)
  have HT := Lib.hid (hT.below g0)
  clear hT
  have HCF := Lib.hid (fun z (hz : Below w0.heap.size w0 z) => cformed_any k s q rs ws A1 c1 A2 c2 i j g st y z B0 (by have := hz.size; omega) (HO.out.below hz (by omega)) (HT.out.below hz))
  have HCS := Lib.hid (fun z (hz : Below w0.heap.size w0 z) => csame_any k s q rs ws A1 c1 A2 c2 i j g st y 0 0 0 [] [] none 0 none 0 0 0 0 0 false z B0 (by have := hz.size; omega) (HO.out.below hz (by omega)) TxOk.zero)
  have F1 : Hid (¬ (B.formed pn = true ∧ 1 ≤ sl ∧ sl ≤ 1000000) → false = p) := by
    show _ → _; intro h; rw [HP.out]; unfold T.aformed
    cases hf : B.formed pn with
    | false => rfl
    | true => rw [show decide (1 ≤ sl ∧ sl ≤ 1000000) = false from decide_eq_false (fun h2 => h ⟨hf, h2.1, h2.2⟩)]; rfl
  have F2 : Hid (B.formed pn = true → 1 ≤ sl → sl ≤ 1000000 → ha = false → (decide (vr = 0 ∧ vn = 0) && decide (k = 0 ∧ (i = 0 ∧ j = 0) ∧ g = 0 ∧ st = 0 ∧ y = false ∧ s = 0 ∧ q = 0 ∧ rs = [] ∧ ws = [])) = p) := by
    show _ → _; intro h1 h2 h3 h4; rw [HP.out]; unfold T.aformed; rw [h1, show decide (1 ≤ sl ∧ sl ≤ 1000000) = true from decide_eq_true ⟨h2, h3⟩, h4]; rfl
  have F3 : Hid (B.formed pn = true → 1 ≤ sl → sl ≤ 1000000 → ha = true → (B.formed vn && !B.less pr pn vr vn && T.cformed k s q rs ws i j g st y) = p) := by
    show _ → _; intro h1 h2 h3 h4; rw [HP.out]; unfold T.aformed; rw [h1, show decide (1 ≤ sl ∧ sl ≤ 1000000) = true from decide_eq_true ⟨h2, h3⟩, h4]; rfl
  generalize decide (k = 0 ∧ (i = 0 ∧ j = 0) ∧ g = 0 ∧ st = 0 ∧ y = false ∧ s = 0 ∧ q = 0 ∧ rs = [] ∧ ws = []) = cz at HCS F2
  generalize T.cformed k s q rs ws i j g st y = cf at HCF F3
  simp only [List.length_nil] at HCS
  clear ok HP
  generalize rs.length = n1 at *
  generalize ws.length = n2 at *
  have HB1 := Lib.hid (fun z => bformed_any pr pn z)
  have HB2 := Lib.hid (fun z => bformed_any vr vn z)
  have HL := Lib.hid (fun z => bless_any pr pn vr vn z)
  generalize B.formed pn = b1 at *
  generalize B.formed vn = b2 at *
  generalize B.less pr pn vr vn = b3 at *
  go_enter Tryd.func20, Tryd.ntmps20
  go_upto_region 1 with fail
  rw [← hw0]
  clear hw0
  go_wp2_with fail
  refine (HB1.out w0).mono ?_
  rintro e w1 ⟨rfl, t1⟩
  clear HB1
  have a0 := cellB t1 a0
  have a1 := cellB t1 a1
  have a2 := cellB t1 a2
  have a3 := cellB t1 a3
  have a4 := cellB t1 a4
  have a5 := cellB t1 a5
  have a6 := cellB t1 a6
  have a7 := cellB t1 a7
  have a8 := cellB t1 a8
  have a9 := cellB t1 a9
  have a10 := cellB t1 a10
  have a11 := cellB t1 a11
  have a12 := cellB t1 a12
  have a13 := cellB t1 a13
  have a14 := cellB t1 a14
  have a15 := cellB t1 a15
  have e1 := g0.trans (t1.mono gB)
  have s1 := t1.size
  cases b1 with
  | false =>
    have HR := Lib.hid (F1.out fun h => Bool.noConfusion h.1)
    clear F1 F2 F3
    go_wp2_with fail
    go_ret
    exact ⟨ret_bool HR.out, e1⟩
  | true =>
    by_cases l1 : sl < 1
    · have d1 : decide (sl < 1) = true := by simpa using l1
      have HR := Lib.hid (F1.out fun h => absurd h.2.1 (by omega))
      clear F1 F2 F3
      go_wp2_with fail
      go_ret
      exact ⟨ret_bool HR.out, e1⟩
    · have d1 : decide (sl < 1) = false := by simpa using l1
      by_cases l2 : 1000000 < sl
      · have d2 : decide (1000000 < sl) = true := by simpa using l2
        have HR := Lib.hid (F1.out fun h => absurd h.2.2 (by omega))
        clear F1 F2 F3
        go_wp2_with fail
        go_ret
        exact ⟨ret_bool HR.out, e1⟩
      · have d2 : decide (1000000 < sl) = false := by simpa using l2
        cases ha with
        | false =>
          have F4 := Lib.hid (F2.out rfl (by omega) (by omega) rfl)
          clear F1 F2 F3
          have hI : ∀ z, (binOp .eql 28 (.agg #[.int .u32 (vr : Int), .int .i64 vn]) (.agg #[.int .u32 0, .int .i64 0])).run Tryd.prog z = .ok (.bool (decide (vr = 0 ∧ vn = 0))) z := fun z => B.run_eqBal vr vn 0 0 z
          cases hd : decide (vr = 0 ∧ vn = 0) with
          | false =>
            rw [hd] at hI F4
            have HR := Lib.hid (F4.out)
            clear hd F4
            go_wp2_with fail
            go_ret
            exact ⟨ret_bool HR.out, e1⟩
          | true =>
            rw [hd] at hI F4
            rw [Bool.true_and] at F4
            clear hd
            go_wp2_with fail
            refine (HCS.out w1 t1).mono ?_
            rintro e w2 ⟨rfl, t2⟩
            go_wp2_with fail
            go_ret
            exact ⟨ret_bool F4.out, e1.trans (t2.mono (by omega))⟩
        | true =>
          have F4 := Lib.hid (F3.out rfl (by omega) (by omega) rfl)
          clear F1 F2 F3
          go_wp2_with fail
          refine (HB2.out w1).mono ?_
          rintro e w2 ⟨rfl, t2⟩
          clear HB2
          have a0 := cellB t2 a0
          have a1 := cellB t2 a1
          have a2 := cellB t2 a2
          have a3 := cellB t2 a3
          have a4 := cellB t2 a4
          have a5 := cellB t2 a5
          have a6 := cellB t2 a6
          have a7 := cellB t2 a7
          have a8 := cellB t2 a8
          have a9 := cellB t2 a9
          have a10 := cellB t2 a10
          have a11 := cellB t2 a11
          have a12 := cellB t2 a12
          have a13 := cellB t2 a13
          have a14 := cellB t2 a14
          have a15 := cellB t2 a15
          have e2 := e1.trans (t2.mono (by omega))
          have s2 := t2.size
          cases b2 with
          | false =>
            have HR := Lib.hid (F4.out)
            clear F4
            go_wp2_with fail
            go_ret
            exact ⟨ret_bool HR.out, e2⟩
          | true =>
            go_wp2_with fail
            refine (HL.out w2).mono ?_
            rintro e w3 ⟨rfl, t3⟩
            clear HL
            have a0 := cellB t3 a0
            have a1 := cellB t3 a1
            have a2 := cellB t3 a2
            have a3 := cellB t3 a3
            have a4 := cellB t3 a4
            have a5 := cellB t3 a5
            have a6 := cellB t3 a6
            have a7 := cellB t3 a7
            have a8 := cellB t3 a8
            have a9 := cellB t3 a9
            have a10 := cellB t3 a10
            have a11 := cellB t3 a11
            have a12 := cellB t3 a12
            have a13 := cellB t3 a13
            have a14 := cellB t3 a14
            have a15 := cellB t3 a15
            have e3 := e2.trans (t3.mono (by omega))
            have s3 := t3.size
            cases b3 with
            | true =>
              have HR := Lib.hid (F4.out)
              clear F4
              go_wp2_with fail
              go_ret
              exact ⟨ret_bool HR.out, e3⟩
            | false =>
              go_wp2_with fail
              refine (HCF.out w3 ((t1.trans (t2.mono (by omega))).trans (t3.mono (by omega)))).mono ?_
              rintro e w4 ⟨rfl, t4⟩
              go_wp2_with fail
              go_ret
              exact ⟨ret_bool F4.out, e3.trans (t4.mono (by omega))⟩
set_option maxHeartbeats 6400000 in
theorem raformed_any (pr : Nat) (pn sl : Int) (ha : Bool) (vr : Nat) (vn : Int) (k s q : Int) (rs : List Rd1) (ws : List Wr1) (A1 : Option Addr) (c1 : Nat) (A2 : Option Addr) (c2 : Nat) (i j g : Int) (st : Nat) (y : Bool) (w : World) (B0 : Nat) (hB : B0 ≤ w.heap.size) (ok : TxOk w B0 rs ws A1 c1 A2 c2) :
    Calls Tryd.prog 21 #[.agg #[.int .u32 (pr : Int), .int .i64 pn, .int .i64 sl, .bool ha, .int .u32 (vr : Int), .int .i64 vn, .int .i64 k, .int .i64 s, .int .i64 q, .slice A1 rs.length c1, .slice A2 ws.length c2, .int .i64 i, .int .i64 j, .int .i64 g, .int .u64 (st : Int), .bool y]] w fun e w' => e = .returned (.bool (T.aformed pr pn sl ha vr vn k s q rs ws i j g st y)) ∧ Below w.heap.size w w' := by
  obtain ⟨p, hp⟩ : ∃ p : Bool, p = T.aformed pr pn sl ha vr vn k s q rs ws i j g st y := ⟨_, rfl⟩
  have HP := Lib.hid hp
  rw [← hp]
  clear hp
  obtain ⟨w0, hw0⟩ : ∃ w0, w0 = w.alloc (.cells #[.int .u32 (pr : Int), .int .i64 pn, .int .i64 sl, .bool ha, .int .u32 (vr : Int), .int .i64 vn, .int .i64 k, .int .i64 s, .int .i64 q, .slice A1 rs.length c1, .slice A2 ws.length c2, .int .i64 i, .int .i64 j, .int .i64 g, .int .u64 (st : Int), .bool y] 43) := ⟨_, rfl⟩
  have g0 : Below w.heap.size w w0 := by rw [hw0]; exact (Below.refl _ _).alloc (Nat.le_refl _) _
  obtain ⟨a0, a1, a2, a3, a4, a5, a6, a7, a8, a9, a10, a11, a12, a13, a14, a15⟩ : w0.cell? ⟨w.heap.size, 0, none⟩ = some (.int .u32 (pr : Int)) ∧ w0.cell? ⟨w.heap.size, 1, none⟩ = some (.int .i64 pn) ∧ w0.cell? ⟨w.heap.size, 2, none⟩ = some (.int .i64 sl) ∧ w0.cell? ⟨w.heap.size, 3, none⟩ = some (.bool ha) ∧ w0.cell? ⟨w.heap.size, 4, none⟩ = some (.int .u32 (vr : Int)) ∧ w0.cell? ⟨w.heap.size, 5, none⟩ = some (.int .i64 vn) ∧ w0.cell? ⟨w.heap.size, 6, none⟩ = some (.int .i64 k) ∧ w0.cell? ⟨w.heap.size, 7, none⟩ = some (.int .i64 s) ∧ w0.cell? ⟨w.heap.size, 8, none⟩ = some (.int .i64 q) ∧ w0.cell? ⟨w.heap.size, 9, none⟩ = some (.slice A1 rs.length c1) ∧ w0.cell? ⟨w.heap.size, 10, none⟩ = some (.slice A2 ws.length c2) ∧ w0.cell? ⟨w.heap.size, 11, none⟩ = some (.int .i64 i) ∧ w0.cell? ⟨w.heap.size, 12, none⟩ = some (.int .i64 j) ∧ w0.cell? ⟨w.heap.size, 13, none⟩ = some (.int .i64 g) ∧ w0.cell? ⟨w.heap.size, 14, none⟩ = some (.int .u64 (st : Int)) ∧ w0.cell? ⟨w.heap.size, 15, none⟩ = some (.bool y) := by
    rw [hw0]; exact ⟨by simp, by simp, by simp, by simp, by simp, by simp, by simp, by simp, by simp, by simp, by simp, by simp, by simp, by simp, by simp, by simp⟩
  have gB := g0.size
  have HO := Lib.hid (ok.below g0 hB)
  have HCF := Lib.hid (fun z (hz : Below w0.heap.size w0 z) => rcformed_any k s q rs ws A1 c1 A2 c2 i j g st y z B0 (by have := hz.size; omega) (HO.out.below hz (by omega)))
  have HCS := Lib.hid (fun z (hz : Below w0.heap.size w0 z) => rcsame_any k s q rs ws A1 c1 A2 c2 i j g st y 0 0 0 [] [] none 0 none 0 0 0 0 0 false z B0 (by have := hz.size; omega) (HO.out.below hz (by omega)) TxOk.zero)
  have F1 : Hid (¬ (B.formed pn = true ∧ 1 ≤ sl ∧ sl ≤ 1000000) → false = p) := by
    show _ → _; intro h; rw [HP.out]; unfold T.aformed
    cases hf : B.formed pn with
    | false => rfl
    | true => rw [show decide (1 ≤ sl ∧ sl ≤ 1000000) = false from decide_eq_false (fun h2 => h ⟨hf, h2.1, h2.2⟩)]; rfl
  have F2 : Hid (B.formed pn = true → 1 ≤ sl → sl ≤ 1000000 → ha = false → (decide (vr = 0 ∧ vn = 0) && decide (k = 0 ∧ (i = 0 ∧ j = 0) ∧ g = 0 ∧ st = 0 ∧ y = false ∧ s = 0 ∧ q = 0 ∧ rs = [] ∧ ws = [])) = p) := by
    show _ → _; intro h1 h2 h3 h4; rw [HP.out]; unfold T.aformed; rw [h1, show decide (1 ≤ sl ∧ sl ≤ 1000000) = true from decide_eq_true ⟨h2, h3⟩, h4]; rfl
  have F3 : Hid (B.formed pn = true → 1 ≤ sl → sl ≤ 1000000 → ha = true → (B.formed vn && !B.less pr pn vr vn && T.cformed k s q rs ws i j g st y) = p) := by
    show _ → _; intro h1 h2 h3 h4; rw [HP.out]; unfold T.aformed; rw [h1, show decide (1 ≤ sl ∧ sl ≤ 1000000) = true from decide_eq_true ⟨h2, h3⟩, h4]; rfl
  generalize decide (k = 0 ∧ (i = 0 ∧ j = 0) ∧ g = 0 ∧ st = 0 ∧ y = false ∧ s = 0 ∧ q = 0 ∧ rs = [] ∧ ws = []) = cz at HCS F2
  generalize T.cformed k s q rs ws i j g st y = cf at HCF F3
  simp only [List.length_nil] at HCS
  clear ok HP
  generalize rs.length = n1 at *
  generalize ws.length = n2 at *
  have HB1 := Lib.hid (fun z => rbformed_any pr pn z)
  have HB2 := Lib.hid (fun z => rbformed_any vr vn z)
  have HL := Lib.hid (fun z => rbless_any pr pn vr vn z)
  generalize B.formed pn = b1 at *
  generalize B.formed vn = b2 at *
  generalize B.less pr pn vr vn = b3 at *
  go_enter Tryd.func21, Tryd.ntmps21
  go_upto_region 1 with fail
  rw [← hw0]
  clear hw0
  go_wp2_with fail
  refine (HB1.out w0).mono ?_
  rintro e w1 ⟨rfl, t1⟩
  clear HB1
  have a0 := cellB t1 a0
  have a1 := cellB t1 a1
  have a2 := cellB t1 a2
  have a3 := cellB t1 a3
  have a4 := cellB t1 a4
  have a5 := cellB t1 a5
  have a6 := cellB t1 a6
  have a7 := cellB t1 a7
  have a8 := cellB t1 a8
  have a9 := cellB t1 a9
  have a10 := cellB t1 a10
  have a11 := cellB t1 a11
  have a12 := cellB t1 a12
  have a13 := cellB t1 a13
  have a14 := cellB t1 a14
  have a15 := cellB t1 a15
  have e1 := g0.trans (t1.mono gB)
  have s1 := t1.size
  cases b1 with
  | false =>
    have HR := Lib.hid (F1.out fun h => Bool.noConfusion h.1)
    clear F1 F2 F3
    go_wp2_with fail
    go_ret
    exact ⟨ret_bool HR.out, e1⟩
  | true =>
    by_cases l1 : sl < 1
    · have d1 : decide (sl < 1) = true := by simpa using l1
      have HR := Lib.hid (F1.out fun h => absurd h.2.1 (by omega))
      clear F1 F2 F3
      go_wp2_with fail
      go_ret
      exact ⟨ret_bool HR.out, e1⟩
    · have d1 : decide (sl < 1) = false := by simpa using l1
      by_cases l2 : 1000000 < sl
      · have d2 : decide (1000000 < sl) = true := by simpa using l2
        have HR := Lib.hid (F1.out fun h => absurd h.2.2 (by omega))
        clear F1 F2 F3
        go_wp2_with fail
        go_ret
        exact ⟨ret_bool HR.out, e1⟩
      · have d2 : decide (1000000 < sl) = false := by simpa using l2
        cases ha with
        | false =>
          have F4 := Lib.hid (F2.out rfl (by omega) (by omega) rfl)
          clear F1 F2 F3
          have hI : ∀ z, (binOp .eql 40 (.agg #[.int .u32 (vr : Int), .int .i64 vn]) (.agg #[.int .u32 0, .int .i64 0])).run Tryd.prog z = .ok (.bool (decide (vr = 0 ∧ vn = 0))) z := fun z => B.run_eqRBal vr vn 0 0 z
          cases hd : decide (vr = 0 ∧ vn = 0) with
          | false =>
            rw [hd] at hI F4
            have HR := Lib.hid (F4.out)
            clear hd F4
            go_wp2_with fail
            go_ret
            exact ⟨ret_bool HR.out, e1⟩
          | true =>
            rw [hd] at hI F4
            rw [Bool.true_and] at F4
            clear hd
            go_wp2_with fail
            refine (HCS.out w1 t1).mono ?_
            rintro e w2 ⟨rfl, t2⟩
            go_wp2_with fail
            go_ret
            exact ⟨ret_bool F4.out, e1.trans (t2.mono (by omega))⟩
        | true =>
          have F4 := Lib.hid (F3.out rfl (by omega) (by omega) rfl)
          clear F1 F2 F3
          go_wp2_with fail
          refine (HB2.out w1).mono ?_
          rintro e w2 ⟨rfl, t2⟩
          clear HB2
          have a0 := cellB t2 a0
          have a1 := cellB t2 a1
          have a2 := cellB t2 a2
          have a3 := cellB t2 a3
          have a4 := cellB t2 a4
          have a5 := cellB t2 a5
          have a6 := cellB t2 a6
          have a7 := cellB t2 a7
          have a8 := cellB t2 a8
          have a9 := cellB t2 a9
          have a10 := cellB t2 a10
          have a11 := cellB t2 a11
          have a12 := cellB t2 a12
          have a13 := cellB t2 a13
          have a14 := cellB t2 a14
          have a15 := cellB t2 a15
          have e2 := e1.trans (t2.mono (by omega))
          have s2 := t2.size
          cases b2 with
          | false =>
            have HR := Lib.hid (F4.out)
            clear F4
            go_wp2_with fail
            go_ret
            exact ⟨ret_bool HR.out, e2⟩
          | true =>
            go_wp2_with fail
            refine (HL.out w2).mono ?_
            rintro e w3 ⟨rfl, t3⟩
            clear HL
            have a0 := cellB t3 a0
            have a1 := cellB t3 a1
            have a2 := cellB t3 a2
            have a3 := cellB t3 a3
            have a4 := cellB t3 a4
            have a5 := cellB t3 a5
            have a6 := cellB t3 a6
            have a7 := cellB t3 a7
            have a8 := cellB t3 a8
            have a9 := cellB t3 a9
            have a10 := cellB t3 a10
            have a11 := cellB t3 a11
            have a12 := cellB t3 a12
            have a13 := cellB t3 a13
            have a14 := cellB t3 a14
            have a15 := cellB t3 a15
            have e3 := e2.trans (t3.mono (by omega))
            have s3 := t3.size
            cases b3 with
            | true =>
              have HR := Lib.hid (F4.out)
              clear F4
              go_wp2_with fail
              go_ret
              exact ⟨ret_bool HR.out, e3⟩
            | false =>
              go_wp2_with fail
              refine (HCF.out w3 ((t1.trans (t2.mono (by omega))).trans (t3.mono (by omega)))).mono ?_
              rintro e w4 ⟨rfl, t4⟩
              go_wp2_with fail
              go_ret
              exact ⟨ret_bool F4.out, e3.trans (t4.mono (by omega))⟩
end Go.Proofs.YtbahooohkigcnaaDoor
