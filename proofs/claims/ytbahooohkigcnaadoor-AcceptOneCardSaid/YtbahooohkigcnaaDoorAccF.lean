/- The walks of accept.New, plain, few, awake and of the reference's Same of acceptors. Conditions: what lies, lies below; the tables lie. (Printed by gen_accf.py.) -/
import Derived.Test.YtbahooohkigcnaaDoorAccA
import Derived.Test.YtbahooohkigcnaaDoorTxnG
namespace Go.Proofs.YtbahooohkigcnaaDoor
set_option maxRecDepth 20000
open Go.RowKit T
set_option linter.unusedSimpArgs false
set_option linter.unusedVariables false

set_option maxHeartbeats 1600000 in
theorem anew_any (w : World) : Calls Tryd.prog 22 #[] w fun e w' => e = .returned (.agg #[.int .u32 0, .int .i64 0, .int .i64 1, .bool false, .int .u32 0, .int .i64 0, .int .i64 0, .int .i64 0, .int .i64 0, .slice none 0 0, .slice none 0 0, .int .i64 0, .int .i64 0, .int .i64 0, .int .u64 0, .bool false]) ∧ Below w.heap.size w w' := by
  go_enter Tryd.func22, Tryd.ntmps22
  go_wp2_with fail
  refine bodyPost_ret (v := .agg #[.int .u32 0, .int .i64 0, .int .i64 1, .bool false, .int .u32 0, .int .i64 0, .int .i64 0, .int .i64 0, .int .i64 0, .slice none 0 0, .slice none 0 0, .int .i64 0, .int .i64 0, .int .i64 0, .int .u64 0, .bool false]) (by simp [results, Tryd.results22, go_sem]) rfl ⟨rfl, ?_⟩
  exact (Below.refl _ _).alloc (Nat.le_refl _) _
theorem aformed_new (w : World) (hT : Tabs w) : Calls Tryd.prog 20 #[.agg #[.int .u32 0, .int .i64 0, .int .i64 1, .bool false, .int .u32 0, .int .i64 0, .int .i64 0, .int .i64 0, .int .i64 0, .slice none 0 0, .slice none 0 0, .int .i64 0, .int .i64 0, .int .i64 0, .int .u64 0, .bool false]] w fun e w' => e = .returned (.bool true) ∧ Below w.heap.size w w' := by
  have := aformed_any 0 0 1 false 0 0 0 0 0 [] [] none 0 none 0 0 0 0 0 false w 0 (Nat.zero_le _) TxOk.zero hT
  have e : T.aformed 0 0 1 false 0 0 0 0 0 [] [] 0 0 0 0 false = true := by decide
  rw [e] at this
  exact this
set_option maxHeartbeats 1600000 in
theorem a18_awake (w : World) (hT : Tabs w) : Calls Tryd.prog 12 #[] w fun e w' => e = .returned (.bool true) ∧ Below w.heap.size w w' := by
  have HF := Lib.hid (fun z (hz : Below w.heap.size w z) => aformed_new z (hT.below hz))
  have hfld : ∀ z, (Instr.field 39 (.agg #[.int .u32 0, .int .i64 0, .int .i64 1, .bool false, .int .u32 0, .int .i64 0, .int .i64 0, .int .i64 0, .int .i64 0, .slice none 0 0, .slice none 0 0, .int .i64 0, .int .i64 0, .int .i64 0, .int .u64 0, .bool false]) 1).run Tryd.prog z = .ok (.int .i64 1) z := fun z => by rfl
  go_enter Tryd.func12, Tryd.ntmps12
  go_wp2_with fail
  refine (anew_any w).mono ?_
  rintro e w1 ⟨rfl, t1⟩
  go_wp2_with fail
  refine (HF.out w1 t1).mono ?_
  rintro e w2 ⟨rfl, t2⟩
  have e2 := t1.trans (t2.mono t1.size)
  go_wp2_with fail
  refine (anew_any w2).mono ?_
  rintro e w3 ⟨rfl, t3⟩
  go_wp2_with fail
  go_ret
  exact ⟨rfl, e2.trans (t3.mono e2.size)⟩
set_option maxHeartbeats 1600000 in
theorem a18_few (k s q : Int) (rs : List Rd1) (ws : List Wr1) (A1 : Option Addr) (c1 : Nat) (A2 : Option Addr) (c2 : Nat) (i j g : Int) (st : Nat) (y : Bool) (w : World) (B0 : Nat) (hB : B0 ≤ w.heap.size) (ok : TxOk w B0 rs ws A1 c1 A2 c2) :
    Calls Tryd.prog 13 #[.agg #[.int .i64 k, .int .i64 s, .int .i64 q, .slice A1 rs.length c1, .slice A2 ws.length c2, .int .i64 i, .int .i64 j, .int .i64 g, .int .u64 (st : Int), .bool y]] w fun e w' => (∃ r : Bool, e = .returned (.bool r)) ∧ Below w.heap.size w w' := by
  have g0 : Below w.heap.size w (w.alloc (.cells #[.int .i64 k, .int .i64 s, .int .i64 q, .slice A1 rs.length c1, .slice A2 ws.length c2, .int .i64 i, .int .i64 j, .int .i64 g, .int .u64 (st : Int), .bool y] 37)) := (Below.refl _ _).alloc (Nat.le_refl _) _
  have HF := Lib.hid (rfew_any k s q rs ws A1 c1 A2 c2 i j g st y _ B0 (Nat.le_trans hB g0.size) (ok.below g0 hB))
  clear ok
  generalize rs.length = n1 at *
  generalize ws.length = n2 at *
  go_enter Tryd.func13, Tryd.ntmps13
  go_wp2_with fail
  refine HF.out.mono ?_
  rintro e w1 ⟨⟨r, rfl⟩, b1⟩
  go_wp2_with fail
  go_ret
  exact ⟨⟨_, rfl⟩, g0.trans (b1.mono g0.size)⟩
set_option maxRecDepth 20000 in
set_option maxHeartbeats 3200000 in
theorem aplain_any (pr : Nat) (pn sl : Int) (ha : Bool) (vr : Nat) (vn : Int) (k s q : Int) (rs : List Rd1) (ws : List Wr1) (A1 : Option Addr) (c1 : Nat) (A2 : Option Addr) (c2 : Nat) (i j g : Int) (st : Nat) (y : Bool) (w : World) :
    Calls Tryd.prog 14 #[.agg #[.int .u32 (pr : Int), .int .i64 pn, .int .i64 sl, .bool ha, .int .u32 (vr : Int), .int .i64 vn, .int .i64 k, .int .i64 s, .int .i64 q, .slice A1 rs.length c1, .slice A2 ws.length c2, .int .i64 i, .int .i64 j, .int .i64 g, .int .u64 (st : Int), .bool y]] w fun e w' => e = .returned (.agg #[.int .u32 (pr : Int), .int .i64 pn, .int .i64 sl, .bool ha, .int .u32 (vr : Int), .int .i64 vn, .int .i64 k, .int .i64 s, .int .i64 q, .slice A1 rs.length c1, .slice A2 ws.length c2, .int .i64 i, .int .i64 j, .int .i64 g, .int .u64 (st : Int), .bool y]) ∧ Below w.heap.size w w' := by
  generalize rs.length = n1
  generalize ws.length = n2
  go_enter Tryd.func14, Tryd.ntmps14
  go_wp2_with fail
  refine bodyPost_ret (v := .agg #[.int .u32 (pr : Int), .int .i64 pn, .int .i64 sl, .bool ha, .int .u32 (vr : Int), .int .i64 vn, .int .i64 k, .int .i64 s, .int .i64 q, .slice A1 n1 c1, .slice A2 n2 c2, .int .i64 i, .int .i64 j, .int .i64 g, .int .u64 (st : Int), .bool y]) (by simp [results, Tryd.results14, go_sem]) rfl ⟨rfl, ?_⟩
  exact ((Below.refl _ _).alloc (Nat.le_refl _) _).alloc (by simp) _
def T.asame (pr : Nat) (pn sl : Int) (ha : Bool) (vr : Nat) (vn : Int) (pr' : Nat) (pn' sl' : Int) (ha' : Bool) (vr' : Nat) (vn' : Int) (c : Bool) : Bool :=
  decide (pr = pr' ∧ pn = pn') && decide (sl = sl') && decide (ha = ha') && decide (vr = vr' ∧ vn = vn') && c
set_option maxRecDepth 20000 in
set_option maxHeartbeats 6400000 in
theorem rasame_any (pr : Nat) (pn sl : Int) (ha : Bool) (vr : Nat) (vn : Int) (k s q : Int) (rs : List Rd1) (ws : List Wr1) (A1 : Option Addr) (c1 : Nat) (A2 : Option Addr) (c2 : Nat) (i j g : Int) (st : Nat) (y : Bool) (pr' : Nat) (pn' sl' : Int) (ha' : Bool) (vr' : Nat) (vn' : Int) (k' s' q' : Int) (rs' : List Rd1) (ws' : List Wr1) (A1' : Option Addr) (c1' : Nat) (A2' : Option Addr) (c2' : Nat) (i' j' g' : Int) (st' : Nat) (y' : Bool) (w : World) (B0 : Nat) (hB : B0 ≤ w.heap.size) (ok : TxOk w B0 rs ws A1 c1 A2 c2) (ok' : TxOk w B0 rs' ws' A1' c1' A2' c2') :
    Calls Tryd.prog 19 #[.agg #[.int .u32 (pr : Int), .int .i64 pn, .int .i64 sl, .bool ha, .int .u32 (vr : Int), .int .i64 vn, .int .i64 k, .int .i64 s, .int .i64 q, .slice A1 rs.length c1, .slice A2 ws.length c2, .int .i64 i, .int .i64 j, .int .i64 g, .int .u64 (st : Int), .bool y], .agg #[.int .u32 (pr' : Int), .int .i64 pn', .int .i64 sl', .bool ha', .int .u32 (vr' : Int), .int .i64 vn', .int .i64 k', .int .i64 s', .int .i64 q', .slice A1' rs'.length c1', .slice A2' ws'.length c2', .int .i64 i', .int .i64 j', .int .i64 g', .int .u64 (st' : Int), .bool y']] w fun e w' => e = .returned (.bool (T.asame pr pn sl ha vr vn pr' pn' sl' ha' vr' vn' (decide (k = k' ∧ (i = i' ∧ j = j') ∧ g = g' ∧ st = st' ∧ y = y' ∧ s = s' ∧ q = q' ∧ rs = rs' ∧ ws = ws')))) ∧ Below w.heap.size w w' := by
  obtain ⟨w0, hw0⟩ : ∃ w0, w0 = (w.alloc (.cells #[.int .u32 (pr : Int), .int .i64 pn, .int .i64 sl, .bool ha, .int .u32 (vr : Int), .int .i64 vn, .int .i64 k, .int .i64 s, .int .i64 q, .slice A1 rs.length c1, .slice A2 ws.length c2, .int .i64 i, .int .i64 j, .int .i64 g, .int .u64 (st : Int), .bool y] 43)).alloc (.cells #[.int .u32 (pr' : Int), .int .i64 pn', .int .i64 sl', .bool ha', .int .u32 (vr' : Int), .int .i64 vn', .int .i64 k', .int .i64 s', .int .i64 q', .slice A1' rs'.length c1', .slice A2' ws'.length c2', .int .i64 i', .int .i64 j', .int .i64 g', .int .u64 (st' : Int), .bool y'] 43) := ⟨_, rfl⟩
  have g0 : Below w.heap.size w w0 := by rw [hw0]; exact ((Below.refl _ _).alloc (Nat.le_refl _) _).alloc (by simp) _
  obtain ⟨a0, a1, a2, a3, a4, a5, a6, a7, a8, a9, a10, a11, a12, a13, a14, a15, b0, b1, b2, b3, b4, b5, b6, b7, b8, b9, b10, b11, b12, b13, b14, b15⟩ : w0.cell? ⟨w.heap.size, 0, none⟩ = some (.int .u32 (pr : Int)) ∧ w0.cell? ⟨w.heap.size, 1, none⟩ = some (.int .i64 pn) ∧ w0.cell? ⟨w.heap.size, 2, none⟩ = some (.int .i64 sl) ∧ w0.cell? ⟨w.heap.size, 3, none⟩ = some (.bool ha) ∧ w0.cell? ⟨w.heap.size, 4, none⟩ = some (.int .u32 (vr : Int)) ∧ w0.cell? ⟨w.heap.size, 5, none⟩ = some (.int .i64 vn) ∧ w0.cell? ⟨w.heap.size, 6, none⟩ = some (.int .i64 k) ∧ w0.cell? ⟨w.heap.size, 7, none⟩ = some (.int .i64 s) ∧ w0.cell? ⟨w.heap.size, 8, none⟩ = some (.int .i64 q) ∧ w0.cell? ⟨w.heap.size, 9, none⟩ = some (.slice A1 rs.length c1) ∧ w0.cell? ⟨w.heap.size, 10, none⟩ = some (.slice A2 ws.length c2) ∧ w0.cell? ⟨w.heap.size, 11, none⟩ = some (.int .i64 i) ∧ w0.cell? ⟨w.heap.size, 12, none⟩ = some (.int .i64 j) ∧ w0.cell? ⟨w.heap.size, 13, none⟩ = some (.int .i64 g) ∧ w0.cell? ⟨w.heap.size, 14, none⟩ = some (.int .u64 (st : Int)) ∧ w0.cell? ⟨w.heap.size, 15, none⟩ = some (.bool y) ∧ w0.cell? ⟨w.heap.size + 1, 0, none⟩ = some (.int .u32 (pr' : Int)) ∧ w0.cell? ⟨w.heap.size + 1, 1, none⟩ = some (.int .i64 pn') ∧ w0.cell? ⟨w.heap.size + 1, 2, none⟩ = some (.int .i64 sl') ∧ w0.cell? ⟨w.heap.size + 1, 3, none⟩ = some (.bool ha') ∧ w0.cell? ⟨w.heap.size + 1, 4, none⟩ = some (.int .u32 (vr' : Int)) ∧ w0.cell? ⟨w.heap.size + 1, 5, none⟩ = some (.int .i64 vn') ∧ w0.cell? ⟨w.heap.size + 1, 6, none⟩ = some (.int .i64 k') ∧ w0.cell? ⟨w.heap.size + 1, 7, none⟩ = some (.int .i64 s') ∧ w0.cell? ⟨w.heap.size + 1, 8, none⟩ = some (.int .i64 q') ∧ w0.cell? ⟨w.heap.size + 1, 9, none⟩ = some (.slice A1' rs'.length c1') ∧ w0.cell? ⟨w.heap.size + 1, 10, none⟩ = some (.slice A2' ws'.length c2') ∧ w0.cell? ⟨w.heap.size + 1, 11, none⟩ = some (.int .i64 i') ∧ w0.cell? ⟨w.heap.size + 1, 12, none⟩ = some (.int .i64 j') ∧ w0.cell? ⟨w.heap.size + 1, 13, none⟩ = some (.int .i64 g') ∧ w0.cell? ⟨w.heap.size + 1, 14, none⟩ = some (.int .u64 (st' : Int)) ∧ w0.cell? ⟨w.heap.size + 1, 15, none⟩ = some (.bool y') := by
    rw [hw0]; exact ⟨cellA _ (by simp), cellA _ (by simp), cellA _ (by simp), cellA _ (by simp), cellA _ (by simp), cellA _ (by simp), cellA _ (by simp), cellA _ (by simp), cellA _ (by simp), cellA _ (by simp), cellA _ (by simp), cellA _ (by simp), cellA _ (by simp), cellA _ (by simp), cellA _ (by simp), cellA _ (by simp), by simp, by simp, by simp, by simp, by simp, by simp, by simp, by simp, by simp, by simp, by simp, by simp, by simp, by simp, by simp, by simp⟩
  have gB := g0.size
  have H1 := Lib.hid (rcsame_any k s q rs ws A1 c1 A2 c2 i j g st y k' s' q' rs' ws' A1' c1' A2' c2' i' j' g' st' y' w0 B0 (by omega) (ok.below g0 hB) (ok'.below g0 hB))
  generalize decide (k = k' ∧ (i = i' ∧ j = j') ∧ g = g' ∧ st = st' ∧ y = y' ∧ s = s' ∧ q = q' ∧ rs = rs' ∧ ws = ws') = cs at H1 ⊢
  obtain ⟨p, hp⟩ : ∃ p : Bool, p = T.asame pr pn sl ha vr vn pr' pn' sl' ha' vr' vn' cs := ⟨_, rfl⟩
  rw [← hp]
  have HP : Hid ((decide (pr = pr' ∧ pn = pn') && decide (sl = sl') && decide (ha = ha') && decide (vr = vr' ∧ vn = vn') && cs) = p) := hp.symm
  clear ok ok' hp
  generalize rs.length = n1 at *
  generalize rs'.length = n1' at *
  generalize ws.length = n2 at *
  generalize ws'.length = n2' at *
  have hI := fun z => B.run_eqRBal pr pn pr' pn' z
  have hJ := fun z => B.run_eqRBal vr vn vr' vn' z
  generalize decide (pr = pr' ∧ pn = pn') = m1 at hI HP
  generalize decide (vr = vr' ∧ vn = vn') = m4 at hJ HP
  have d2 : (sl == sl') = decide (sl = sl') := by by_cases h : sl = sl' <;> simp [h]
  have d3 : (ha == ha') = decide (ha = ha') := by cases ha <;> cases ha' <;> rfl
  generalize decide (sl = sl') = m2 at d2 HP
  generalize decide (ha = ha') = m3 at d3 HP
  go_enter Tryd.func19, Tryd.ntmps19
  go_upto_region 1 with fail
  rw [← hw0]
  clear hw0
  cases m1 with
  | false =>
    have HR : Hid (false = p) := HP.out
    clear HP
    go_wp2_with fail
    go_ret
    exact ⟨ret_bool HR.out, g0⟩
  | true =>
    cases m2 with
    | false =>
      have HR : Hid (false = p) := HP.out
      clear HP
      go_wp2_with fail
      go_ret
      exact ⟨ret_bool HR.out, g0⟩
    | true =>
      cases m3 with
      | false =>
        have HR : Hid (false = p) := HP.out
        clear HP
        go_wp2_with fail
        go_ret
        exact ⟨ret_bool HR.out, g0⟩
      | true =>
        cases m4 with
        | false =>
          have HR : Hid (false = p) := HP.out
          clear HP
          go_wp2_with fail
          go_ret
          exact ⟨ret_bool HR.out, g0⟩
        | true =>
          have HR : Hid (cs = p) := HP.out
          clear HP
          go_wp2_with fail
          refine H1.out.mono ?_
          rintro e w1 ⟨rfl, t1⟩
          go_wp2_with fail
          go_ret
          exact ⟨ret_bool HR.out, g0.trans (t1.mono gB)⟩
end Go.Proofs.YtbahooohkigcnaaDoor
