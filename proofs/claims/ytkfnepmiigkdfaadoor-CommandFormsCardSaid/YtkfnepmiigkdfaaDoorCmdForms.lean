/- The walk of the law CommandForms. (Printed by gen_cforms.py.) -/
import Derived.Test.YtkfnepmiigkdfaaDoorTxnI
import Derived.Test.YtkfnepmiigkdfaaDoorTxnF
import Derived.Test.YtkfnepmiigkdfaaDoorTxnG
import Derived.Test.YtkfnepmiigkdfaaDoorCodeWalks
import Derived.Test.YtkfnepmiigkdfaaDoorTxnArg
namespace Go.Proofs.YtkfnepmiigkdfaaDoor
set_option maxRecDepth 20000
open Go.RowKit T
set_option linter.unusedSimpArgs false
set_option linter.unusedVariables false

theorem cformed_zero (w : World) (hT : Tabs w) : Calls Tryd.prog 28 #[.agg #[.int .i64 0, .int .i64 0, .int .i64 0, .slice none 0 0, .slice none 0 0, .int .i64 0, .int .i64 0, .int .i64 0, .int .u64 0, .bool false]] w fun e w' => e = .returned (.bool true) ∧ Below w.heap.size w w' := by
  have := cformed_any 0 0 0 [] [] none 0 none 0 0 0 0 0 false w 0 (Nat.zero_le _) TxOk.zero hT
  exact this
set_option maxHeartbeats 1600000 in
theorem cput_zero (w : World) (hT : Tabs w) : Calls Tryd.prog 29 #[.slice none 0 0, .agg #[.int .i64 0, .int .i64 0, .int .i64 0, .slice none 0 0, .slice none 0 0, .int .i64 0, .int .i64 0, .int .i64 0, .int .u64 0, .bool false]] w (MadeB w (C.be 0 (C.clamp8 1))) := by
  have g0 : Below w.heap.size w (w.alloc (.cells #[.int .i64 0, .int .i64 0, .int .i64 0, .slice none 0 0, .slice none 0 0, .int .i64 0, .int .i64 0, .int .i64 0, .int .u64 0, .bool false] 37)) := (Below.refl _ _).alloc (Nat.le_refl _) _
  have HF := Lib.hid (cformed_zero _ (hT.below g0))
  have a0 : (w.alloc (.cells #[.int .i64 0, .int .i64 0, .int .i64 0, .slice none 0 0, .slice none 0 0, .int .i64 0, .int .i64 0, .int .i64 0, .int .u64 0, .bool false] 37)).cell? ⟨w.heap.size, 0, none⟩ = some (.int .i64 0) := by simp
  go_enter Tryd.func29, Tryd.ntmps29
  go_wp2_with fail
  refine HF.out.mono ?_
  rintro e w1 ⟨rfl, b1⟩
  have a1 := cellB b1 a0
  have e1 := g0.trans (b1.mono g0.size)
  go_wp2_with fail
  refine (put_any none 0 [] 0 1 w1 w1.heap.size (by simp) (fun _ => ⟨rfl, rfl⟩) Rd.nil (Nat.le_refl _) (by omega)).mono ?_
  rintro e w2 ⟨v, rfl, o2, b2⟩
  have a2 := cellB b2 a1
  go_wp2_with fail
  go_ret
  exact ⟨_, rfl, ownMore o2 e1.size, e1.trans (b2.mono e1.size)⟩
set_option maxHeartbeats 1600000 in
theorem c9_awake (w : World) (hT : Tabs w) : Calls Tryd.prog 26 #[] w fun e w' => e = .returned (.bool true) ∧ Below w.heap.size w w' := by
  have HF := Lib.hid (cformed_zero _ hT)
  have HP := Lib.hid (fun z (hz : Below w.heap.size w z) => cput_zero z (hT.below hz))
  go_enter Tryd.func26, Tryd.ntmps26
  go_wp2_with fail
  refine HF.out.mono ?_
  rintro e w1 ⟨rfl, b1⟩
  go_wp2_with fail
  refine (HP.out w1 b1).mono ?_
  rintro e w2 ⟨v, rfl, o2, b2⟩
  obtain ⟨A, c, rfl, _, _, _⟩ := ownShape o2
  have hl : (C.be 0 (C.clamp8 1)).length = 1 := by decide
  rw [hl]
  clear o2
  go_wp2_with fail
  go_ret
  exact ⟨rfl, b1.trans (b2.mono b1.size)⟩
set_option maxHeartbeats 1600000 in
theorem c9_few (k s q : Int) (rs : List Rd1) (ws : List Wr1) (A1 : Option Addr) (c1 : Nat) (A2 : Option Addr) (c2 : Nat) (i j g : Int) (st : Nat) (y : Bool) (w : World) (B : Nat) (hB : B ≤ w.heap.size) (ok : TxOk w B rs ws A1 c1 A2 c2) :
    Calls Tryd.prog 27 #[.agg #[.int .i64 k, .int .i64 s, .int .i64 q, .slice A1 rs.length c1, .slice A2 ws.length c2, .int .i64 i, .int .i64 j, .int .i64 g, .int .u64 (st : Int), .bool y]] w fun e w' => (∃ r : Bool, e = .returned (.bool r)) ∧ Below w.heap.size w w' := by
  have g0 : Below w.heap.size w (w.alloc (.cells #[.int .i64 k, .int .i64 s, .int .i64 q, .slice A1 rs.length c1, .slice A2 ws.length c2, .int .i64 i, .int .i64 j, .int .i64 g, .int .u64 (st : Int), .bool y] 37)) := (Below.refl _ _).alloc (Nat.le_refl _) _
  have HF := Lib.hid (rfew_any k s q rs ws A1 c1 A2 c2 i j g st y _ B (Nat.le_trans hB g0.size) (ok.below g0 hB))
  clear ok
  generalize rs.length = n1 at *
  generalize ws.length = n2 at *
  go_enter Tryd.func27, Tryd.ntmps27
  go_wp2_with fail
  refine HF.out.mono ?_
  rintro e w1 ⟨⟨r, rfl⟩, b1⟩
  go_wp2_with fail
  go_ret
  exact ⟨⟨_, rfl⟩, g0.trans (b1.mono g0.size)⟩
theorem belowDrewC {B : Nat} {a w : World} (h : Below B a w) : Below B a w.drew := ⟨h.os, h.tape, h.output, h.size, h.block⟩
theorem belowOfDrewC {B : Nat} {w w' : World} (h : Below B w.drew w') : Below B w w' := ⟨h.os, h.tape, h.output, h.size, h.block⟩
set_option maxRecDepth 20000 in
set_option maxHeartbeats 12800000 in
theorem cforms_mid (k s q : Int) (rs : List Rd1) (ws : List Wr1) (A1 : Option Addr) (c1 : Nat) (A2 : Option Addr) (c2 : Nat) (i j g : Int) (st : Nat) (y : Bool) (k' s' q' : Int) (rs' : List Rd1) (ws' : List Wr1) (A1' : Option Addr) (c1' : Nat) (A2' : Option Addr) (c2' : Nat) (i' j' g' : Int) (st' : Nat) (y' : Bool) (w : World) (ok : TxOk w w.heap.size rs ws A1 c1 A2 c2) (ok' : TxOk w w.heap.size rs' ws' A1' c1' A2' c2') (hT : Tabs w) :
    Calls Tryd.prog 8 #[.agg #[.int .i64 k, .int .i64 s, .int .i64 q, .slice A1 rs.length c1, .slice A2 ws.length c2, .int .i64 i, .int .i64 j, .int .i64 g, .int .u64 (st : Int), .bool y], .agg #[.int .i64 k', .int .i64 s', .int .i64 q', .slice A1' rs'.length c1', .slice A2' ws'.length c2', .int .i64 i', .int .i64 j', .int .i64 g', .int .u64 (st' : Int), .bool y']] w fun e w' => e = .returned (.bool true) ∧ Below w.heap.size w w' := by
  obtain ⟨w0, hw0⟩ : ∃ w0, w0 = (w.alloc (.cells #[.int .i64 k, .int .i64 s, .int .i64 q, .slice A1 rs.length c1, .slice A2 ws.length c2, .int .i64 i, .int .i64 j, .int .i64 g, .int .u64 (st : Int), .bool y] 37)).alloc (.cells #[.int .i64 k', .int .i64 s', .int .i64 q', .slice A1' rs'.length c1', .slice A2' ws'.length c2', .int .i64 i', .int .i64 j', .int .i64 g', .int .u64 (st' : Int), .bool y'] 37) := ⟨_, rfl⟩
  have g0 : Below w.heap.size w w0 := by rw [hw0]; exact ((Below.refl _ _).alloc (Nat.le_refl _) _).alloc (by simp) _
  obtain ⟨xa0, xa1, xa2, xa3, xa4, xa5, xa6, xa7, xa8, xa9, xb0, xb1, xb2, xb3, xb4, xb5, xb6, xb7, xb8, xb9⟩ : w0.cell? ⟨w.heap.size, 0, none⟩ = some (.int .i64 k) ∧ w0.cell? ⟨w.heap.size, 1, none⟩ = some (.int .i64 s) ∧ w0.cell? ⟨w.heap.size, 2, none⟩ = some (.int .i64 q) ∧ w0.cell? ⟨w.heap.size, 3, none⟩ = some (.slice A1 rs.length c1) ∧ w0.cell? ⟨w.heap.size, 4, none⟩ = some (.slice A2 ws.length c2) ∧ w0.cell? ⟨w.heap.size, 5, none⟩ = some (.int .i64 i) ∧ w0.cell? ⟨w.heap.size, 6, none⟩ = some (.int .i64 j) ∧ w0.cell? ⟨w.heap.size, 7, none⟩ = some (.int .i64 g) ∧ w0.cell? ⟨w.heap.size, 8, none⟩ = some (.int .u64 (st : Int)) ∧ w0.cell? ⟨w.heap.size, 9, none⟩ = some (.bool y) ∧ w0.cell? ⟨w.heap.size + 1, 0, none⟩ = some (.int .i64 k') ∧ w0.cell? ⟨w.heap.size + 1, 1, none⟩ = some (.int .i64 s') ∧ w0.cell? ⟨w.heap.size + 1, 2, none⟩ = some (.int .i64 q') ∧ w0.cell? ⟨w.heap.size + 1, 3, none⟩ = some (.slice A1' rs'.length c1') ∧ w0.cell? ⟨w.heap.size + 1, 4, none⟩ = some (.slice A2' ws'.length c2') ∧ w0.cell? ⟨w.heap.size + 1, 5, none⟩ = some (.int .i64 i') ∧ w0.cell? ⟨w.heap.size + 1, 6, none⟩ = some (.int .i64 j') ∧ w0.cell? ⟨w.heap.size + 1, 7, none⟩ = some (.int .i64 g') ∧ w0.cell? ⟨w.heap.size + 1, 8, none⟩ = some (.int .u64 (st' : Int)) ∧ w0.cell? ⟨w.heap.size + 1, 9, none⟩ = some (.bool y') := by
    rw [hw0]; exact ⟨cellA _ (by simp), cellA _ (by simp), cellA _ (by simp), cellA _ (by simp), cellA _ (by simp), cellA _ (by simp), cellA _ (by simp), cellA _ (by simp), cellA _ (by simp), cellA _ (by simp), by simp, by simp, by simp, by simp, by simp, by simp, by simp, by simp, by simp, by simp⟩
  have sz0 : w.heap.size + 2 ≤ w0.heap.size := by rw [hw0]; simp
  have HW := Lib.hid (fun z (hz : Below w.heap.size w z) => c9_awake z (hT.below hz))
  have HFa := Lib.hid (fun z (hz : Below w.heap.size w z) => c9_few k s q rs ws A1 c1 A2 c2 i j g st y z w.heap.size hz.size (ok.below hz (Nat.le_refl _)))
  have HFb := Lib.hid (fun z (hz : Below w.heap.size w z) => c9_few k' s' q' rs' ws' A1' c1' A2' c2' i' j' g' st' y' z w.heap.size hz.size (ok'.below hz (Nat.le_refl _)))
  have HC := Lib.hid (fun z (hz : Below w.heap.size w z) => cformed_any k s q rs ws A1 c1 A2 c2 i j g st y z w.heap.size hz.size (ok.below hz (Nat.le_refl _)) (hT.below hz))
  have HR := Lib.hid (fun z (hz : Below w.heap.size w z) => rcformed_any k s q rs ws A1 c1 A2 c2 i j g st y z w.heap.size hz.size (ok.below hz (Nat.le_refl _)))
  have HL := Lib.hid (fun z => clabel_any k s q rs ws A1 c1 A2 c2 i j g st y z)
  have HM := Lib.hid (fun z => rclabel_any k s q rs ws A1 c1 A2 c2 i j g st y z)
  have HS := Lib.hid (fun z (hz : Below w.heap.size w z) => csame_any k s q rs ws A1 c1 A2 c2 i j g st y k' s' q' rs' ws' A1' c1' A2' c2' i' j' g' st' y' z w.heap.size hz.size (ok.below hz (Nat.le_refl _)) (ok'.below hz (Nat.le_refl _)))
  have HT := Lib.hid (fun z (hz : Below w.heap.size w z) => rcsame_any k s q rs ws A1 c1 A2 c2 i j g st y k' s' q' rs' ws' A1' c1' A2' c2' i' j' g' st' y' z w.heap.size hz.size (ok.below hz (Nat.le_refl _)) (ok'.below hz (Nat.le_refl _)))
  have HU := Lib.hid (fun z (hz : Below w.heap.size w z) => csame_any k s q rs ws A1 c1 A2 c2 i j g st y k s q rs ws A1 c1 A2 c2 i j g st y z w.heap.size hz.size (ok.below hz (Nat.le_refl _)) (ok.below hz (Nat.le_refl _)))
  rw [show decide (k = k ∧ (i = i ∧ j = j) ∧ g = g ∧ st = st ∧ y = y ∧ s = s ∧ q = q ∧ rs = rs ∧ ws = ws) = true by simp] at HU
  generalize T.cformed k s q rs ws i j g st y = f1 at HC HR
  generalize T.label k s q i j = lab at HL HM
  obtain ⟨la, lb⟩ := lab
  simp only at HL HM
  generalize decide (k = k' ∧ (i = i' ∧ j = j') ∧ g = g' ∧ st = st' ∧ y = y' ∧ s = s' ∧ q = q' ∧ rs = rs' ∧ ws = ws') = f2 at HS HT
  clear ok ok' hT
  generalize rs.length = n1 at *
  generalize rs'.length = n1' at *
  generalize ws.length = n2 at *
  generalize ws'.length = n2' at *
  go_enter Tryd.func8, Tryd.ntmps8
  go_upto_region 1 with fail
  rw [← hw0]
  clear hw0
  go_wp2_with fail
  refine (HW.out _ g0).mono ?_
  rintro e w1 ⟨rfl, b1⟩
  have sz1 := b1.size
  have e1 := g0.trans (b1.mono (by omega))
  have xa0 := cellB b1 xa0
  have xa1 := cellB b1 xa1
  have xa2 := cellB b1 xa2
  have xa3 := cellB b1 xa3
  have xa4 := cellB b1 xa4
  have xa5 := cellB b1 xa5
  have xa6 := cellB b1 xa6
  have xa7 := cellB b1 xa7
  have xa8 := cellB b1 xa8
  have xa9 := cellB b1 xa9
  have xb0 := cellB b1 xb0
  have xb1 := cellB b1 xb1
  have xb2 := cellB b1 xb2
  have xb3 := cellB b1 xb3
  have xb4 := cellB b1 xb4
  have xb5 := cellB b1 xb5
  have xb6 := cellB b1 xb6
  have xb7 := cellB b1 xb7
  have xb8 := cellB b1 xb8
  have xb9 := cellB b1 xb9
  go_wp2_with fail
  refine (HFa.out _ e1).mono ?_
  rintro e w2 ⟨⟨r2, rfl⟩, b2⟩
  have sz2 := b2.size
  have e2 := e1.trans (b2.mono (by omega))
  have xa0 := cellB b2 xa0
  have xa1 := cellB b2 xa1
  have xa2 := cellB b2 xa2
  have xa3 := cellB b2 xa3
  have xa4 := cellB b2 xa4
  have xa5 := cellB b2 xa5
  have xa6 := cellB b2 xa6
  have xa7 := cellB b2 xa7
  have xa8 := cellB b2 xa8
  have xa9 := cellB b2 xa9
  have xb0 := cellB b2 xb0
  have xb1 := cellB b2 xb1
  have xb2 := cellB b2 xb2
  have xb3 := cellB b2 xb3
  have xb4 := cellB b2 xb4
  have xb5 := cellB b2 xb5
  have xb6 := cellB b2 xb6
  have xb7 := cellB b2 xb7
  have xb8 := cellB b2 xb8
  have xb9 := cellB b2 xb9
  cases r2 with
  | false =>
    go_wp2_with fail
    refine (HW.out _ e2).mono ?_
    rintro e w3 ⟨rfl, b3⟩
    go_wp2_with fail
    go_ret
    exact ⟨rfl, e2.trans (b3.mono (by omega))⟩
  | true =>
    go_wp2_with fail
    refine (HFb.out _ e2).mono ?_
    rintro e w3 ⟨⟨r3, rfl⟩, b3⟩
    have sz3 := b3.size
    have e3 := e2.trans (b3.mono (by omega))
    have xa0 := cellB b3 xa0
    have xa1 := cellB b3 xa1
    have xa2 := cellB b3 xa2
    have xa3 := cellB b3 xa3
    have xa4 := cellB b3 xa4
    have xa5 := cellB b3 xa5
    have xa6 := cellB b3 xa6
    have xa7 := cellB b3 xa7
    have xa8 := cellB b3 xa8
    have xa9 := cellB b3 xa9
    have xb0 := cellB b3 xb0
    have xb1 := cellB b3 xb1
    have xb2 := cellB b3 xb2
    have xb3 := cellB b3 xb3
    have xb4 := cellB b3 xb4
    have xb5 := cellB b3 xb5
    have xb6 := cellB b3 xb6
    have xb7 := cellB b3 xb7
    have xb8 := cellB b3 xb8
    have xb9 := cellB b3 xb9
    cases r3 with
    | false =>
      go_wp2_with fail
      refine (HW.out _ e3).mono ?_
      rintro e w4 ⟨rfl, b4⟩
      go_wp2_with fail
      go_ret
      exact ⟨rfl, e3.trans (b4.mono (by omega))⟩
    | true =>
      clear HW HFa HFb
      have l0 : w.heap.size < w3.heap.size := by omega
      have l1 : w.heap.size + 1 < w3.heap.size := by omega
      have l2 : w.heap.size < w3.heap.size + 1 := by omega
      have l3 : w.heap.size + 1 < w3.heap.size + 1 := by omega
      go_upto_region 3 with fail
      go_cut [5, 6] (fun u5 u6 wx => ∃ g5 g6 : Nat, u5 = .pointer (some ⟨g5, 0, none⟩) ∧ u6 = .pointer (some ⟨g6, 0, none⟩) ∧ Below w.heap.size w wx ∧ (wx.cell? ⟨w.heap.size, 0, none⟩ = some (.int .i64 k) ∧ wx.cell? ⟨w.heap.size, 1, none⟩ = some (.int .i64 s) ∧ wx.cell? ⟨w.heap.size, 2, none⟩ = some (.int .i64 q) ∧ wx.cell? ⟨w.heap.size, 3, none⟩ = some (.slice A1 n1 c1) ∧ wx.cell? ⟨w.heap.size, 4, none⟩ = some (.slice A2 n2 c2) ∧ wx.cell? ⟨w.heap.size, 5, none⟩ = some (.int .i64 i) ∧ wx.cell? ⟨w.heap.size, 6, none⟩ = some (.int .i64 j) ∧ wx.cell? ⟨w.heap.size, 7, none⟩ = some (.int .i64 g) ∧ wx.cell? ⟨w.heap.size, 8, none⟩ = some (.int .u64 (st : Int)) ∧ wx.cell? ⟨w.heap.size, 9, none⟩ = some (.bool y) ∧ wx.cell? ⟨w.heap.size + 1, 0, none⟩ = some (.int .i64 k') ∧ wx.cell? ⟨w.heap.size + 1, 1, none⟩ = some (.int .i64 s') ∧ wx.cell? ⟨w.heap.size + 1, 2, none⟩ = some (.int .i64 q') ∧ wx.cell? ⟨w.heap.size + 1, 3, none⟩ = some (.slice A1' n1' c1') ∧ wx.cell? ⟨w.heap.size + 1, 4, none⟩ = some (.slice A2' n2' c2') ∧ wx.cell? ⟨w.heap.size + 1, 5, none⟩ = some (.int .i64 i') ∧ wx.cell? ⟨w.heap.size + 1, 6, none⟩ = some (.int .i64 j') ∧ wx.cell? ⟨w.heap.size + 1, 7, none⟩ = some (.int .i64 g') ∧ wx.cell? ⟨w.heap.size + 1, 8, none⟩ = some (.int .u64 (st' : Int)) ∧ wx.cell? ⟨w.heap.size + 1, 9, none⟩ = some (.bool y') ∧ wx.cell? ⟨g5, 0, none⟩ = some (.int .i64 k) ∧ wx.cell? ⟨g5, 1, none⟩ = some (.int .i64 s) ∧ wx.cell? ⟨g5, 2, none⟩ = some (.int .i64 q) ∧ wx.cell? ⟨g5, 3, none⟩ = some (.slice A1 n1 c1) ∧ wx.cell? ⟨g5, 4, none⟩ = some (.slice A2 n2 c2) ∧ wx.cell? ⟨g5, 5, none⟩ = some (.int .i64 i) ∧ wx.cell? ⟨g5, 6, none⟩ = some (.int .i64 j) ∧ wx.cell? ⟨g5, 7, none⟩ = some (.int .i64 g) ∧ wx.cell? ⟨g5, 8, none⟩ = some (.int .u64 (st : Int)) ∧ wx.cell? ⟨g5, 9, none⟩ = some (.bool y) ∧ wx.cell? ⟨g6, 0, none⟩ = some (.int .i64 k') ∧ wx.cell? ⟨g6, 1, none⟩ = some (.int .i64 s') ∧ wx.cell? ⟨g6, 2, none⟩ = some (.int .i64 q') ∧ wx.cell? ⟨g6, 3, none⟩ = some (.slice A1' n1' c1') ∧ wx.cell? ⟨g6, 4, none⟩ = some (.slice A2' n2' c2') ∧ wx.cell? ⟨g6, 5, none⟩ = some (.int .i64 i') ∧ wx.cell? ⟨g6, 6, none⟩ = some (.int .i64 j') ∧ wx.cell? ⟨g6, 7, none⟩ = some (.int .i64 g') ∧ wx.cell? ⟨g6, 8, none⟩ = some (.int .u64 (st' : Int)) ∧ wx.cell? ⟨g6, 9, none⟩ = some (.bool y')))
      case first =>
        go_region
        all_goals
          go_wp2_with fail
          go_meet
          refine ⟨_, _, rfl, rfl, belowDrewC ((e3.alloc (by omega) _).alloc (by simp; omega) _), ⟨cellA _ (cellA _ xa0), cellA _ (cellA _ xa1), cellA _ (cellA _ xa2), cellA _ (cellA _ xa3), cellA _ (cellA _ xa4), cellA _ (cellA _ xa5), cellA _ (cellA _ xa6), cellA _ (cellA _ xa7), cellA _ (cellA _ xa8), cellA _ (cellA _ xa9), cellA _ (cellA _ xb0), cellA _ (cellA _ xb1), cellA _ (cellA _ xb2), cellA _ (cellA _ xb3), cellA _ (cellA _ xb4), cellA _ (cellA _ xb5), cellA _ (cellA _ xb6), cellA _ (cellA _ xb7), cellA _ (cellA _ xb8), cellA _ (cellA _ xb9), by first | exact cellA _ (by simp) | simp, by first | exact cellA _ (by simp) | simp, by first | exact cellA _ (by simp) | simp, by first | exact cellA _ (by simp) | simp, by first | exact cellA _ (by simp) | simp, by first | exact cellA _ (by simp) | simp, by first | exact cellA _ (by simp) | simp, by first | exact cellA _ (by simp) | simp, by first | exact cellA _ (by simp) | simp, by first | exact cellA _ (by simp) | simp, by first | exact cellA _ (by simp) | simp, by first | exact cellA _ (by simp) | simp, by first | exact cellA _ (by simp) | simp, by first | exact cellA _ (by simp) | simp, by first | exact cellA _ (by simp) | simp, by first | exact cellA _ (by simp) | simp, by first | exact cellA _ (by simp) | simp, by first | exact cellA _ (by simp) | simp, by first | exact cellA _ (by simp) | simp, by first | exact cellA _ (by simp) | simp⟩⟩
      case rest =>
        obtain ⟨g5, g6, rfl, rfl, bz, kc⟩ := hcut
        have heq : ∀ z, (binOp .eql 30 (.agg #[.int .i64 la, .int .i64 lb]) (.agg #[.int .i64 la, .int .i64 lb])).run Tryd.prog z = .ok (.bool true) z := fun z => by rw [run_eqId]; simp
        clear xa0 xa1 xa2 xa3 xa4 xa5 xa6 xa7 xa8 xa9 xb0 xb1 xb2 xb3 xb4 xb5 xb6 xb7 xb8 xb9
        go_wp2_with fail
        go_region_held3 (fun w' => w'.cell? ⟨w.heap.size, 0, none⟩ = some (.int .i64 k) ∧ w'.cell? ⟨w.heap.size, 1, none⟩ = some (.int .i64 s) ∧ w'.cell? ⟨w.heap.size, 2, none⟩ = some (.int .i64 q) ∧ w'.cell? ⟨w.heap.size, 3, none⟩ = some (.slice A1 n1 c1) ∧ w'.cell? ⟨w.heap.size, 4, none⟩ = some (.slice A2 n2 c2) ∧ w'.cell? ⟨w.heap.size, 5, none⟩ = some (.int .i64 i) ∧ w'.cell? ⟨w.heap.size, 6, none⟩ = some (.int .i64 j) ∧ w'.cell? ⟨w.heap.size, 7, none⟩ = some (.int .i64 g) ∧ w'.cell? ⟨w.heap.size, 8, none⟩ = some (.int .u64 (st : Int)) ∧ w'.cell? ⟨w.heap.size, 9, none⟩ = some (.bool y) ∧ w'.cell? ⟨w.heap.size + 1, 0, none⟩ = some (.int .i64 k') ∧ w'.cell? ⟨w.heap.size + 1, 1, none⟩ = some (.int .i64 s') ∧ w'.cell? ⟨w.heap.size + 1, 2, none⟩ = some (.int .i64 q') ∧ w'.cell? ⟨w.heap.size + 1, 3, none⟩ = some (.slice A1' n1' c1') ∧ w'.cell? ⟨w.heap.size + 1, 4, none⟩ = some (.slice A2' n2' c2') ∧ w'.cell? ⟨w.heap.size + 1, 5, none⟩ = some (.int .i64 i') ∧ w'.cell? ⟨w.heap.size + 1, 6, none⟩ = some (.int .i64 j') ∧ w'.cell? ⟨w.heap.size + 1, 7, none⟩ = some (.int .i64 g') ∧ w'.cell? ⟨w.heap.size + 1, 8, none⟩ = some (.int .u64 (st' : Int)) ∧ w'.cell? ⟨w.heap.size + 1, 9, none⟩ = some (.bool y') ∧ w'.cell? ⟨g5, 0, none⟩ = some (.int .i64 k) ∧ w'.cell? ⟨g5, 1, none⟩ = some (.int .i64 s) ∧ w'.cell? ⟨g5, 2, none⟩ = some (.int .i64 q) ∧ w'.cell? ⟨g5, 3, none⟩ = some (.slice A1 n1 c1) ∧ w'.cell? ⟨g5, 4, none⟩ = some (.slice A2 n2 c2) ∧ w'.cell? ⟨g5, 5, none⟩ = some (.int .i64 i) ∧ w'.cell? ⟨g5, 6, none⟩ = some (.int .i64 j) ∧ w'.cell? ⟨g5, 7, none⟩ = some (.int .i64 g) ∧ w'.cell? ⟨g5, 8, none⟩ = some (.int .u64 (st : Int)) ∧ w'.cell? ⟨g5, 9, none⟩ = some (.bool y) ∧ w'.cell? ⟨g6, 0, none⟩ = some (.int .i64 k') ∧ w'.cell? ⟨g6, 1, none⟩ = some (.int .i64 s') ∧ w'.cell? ⟨g6, 2, none⟩ = some (.int .i64 q') ∧ w'.cell? ⟨g6, 3, none⟩ = some (.slice A1' n1' c1') ∧ w'.cell? ⟨g6, 4, none⟩ = some (.slice A2' n2' c2') ∧ w'.cell? ⟨g6, 5, none⟩ = some (.int .i64 i') ∧ w'.cell? ⟨g6, 6, none⟩ = some (.int .i64 j') ∧ w'.cell? ⟨g6, 7, none⟩ = some (.int .i64 g') ∧ w'.cell? ⟨g6, 8, none⟩ = some (.int .u64 (st' : Int)) ∧ w'.cell? ⟨g6, 9, none⟩ = some (.bool y')) (exact kc) (first | (go_at_call 28; refine (HC.out _ (by exact belowDrewC bz)).mono ?_; rintro e v1 ⟨rfl, gg⟩; have gg := belowOfDrewC gg; have bz := bz.trans (gg.mono bz.size); have kk := kc; obtain ⟨xa0, xa1, xa2, xa3, xa4, xa5, xa6, xa7, xa8, xa9, xb0, xb1, xb2, xb3, xb4, xb5, xb6, xb7, xb8, xb9, xc0, xc1, xc2, xc3, xc4, xc5, xc6, xc7, xc8, xc9, xd0, xd1, xd2, xd3, xd4, xd5, xd6, xd7, xd8, xd9⟩ := kk; have kc : v1.cell? ⟨w.heap.size, 0, none⟩ = some (.int .i64 k) ∧ v1.cell? ⟨w.heap.size, 1, none⟩ = some (.int .i64 s) ∧ v1.cell? ⟨w.heap.size, 2, none⟩ = some (.int .i64 q) ∧ v1.cell? ⟨w.heap.size, 3, none⟩ = some (.slice A1 n1 c1) ∧ v1.cell? ⟨w.heap.size, 4, none⟩ = some (.slice A2 n2 c2) ∧ v1.cell? ⟨w.heap.size, 5, none⟩ = some (.int .i64 i) ∧ v1.cell? ⟨w.heap.size, 6, none⟩ = some (.int .i64 j) ∧ v1.cell? ⟨w.heap.size, 7, none⟩ = some (.int .i64 g) ∧ v1.cell? ⟨w.heap.size, 8, none⟩ = some (.int .u64 (st : Int)) ∧ v1.cell? ⟨w.heap.size, 9, none⟩ = some (.bool y) ∧ v1.cell? ⟨w.heap.size + 1, 0, none⟩ = some (.int .i64 k') ∧ v1.cell? ⟨w.heap.size + 1, 1, none⟩ = some (.int .i64 s') ∧ v1.cell? ⟨w.heap.size + 1, 2, none⟩ = some (.int .i64 q') ∧ v1.cell? ⟨w.heap.size + 1, 3, none⟩ = some (.slice A1' n1' c1') ∧ v1.cell? ⟨w.heap.size + 1, 4, none⟩ = some (.slice A2' n2' c2') ∧ v1.cell? ⟨w.heap.size + 1, 5, none⟩ = some (.int .i64 i') ∧ v1.cell? ⟨w.heap.size + 1, 6, none⟩ = some (.int .i64 j') ∧ v1.cell? ⟨w.heap.size + 1, 7, none⟩ = some (.int .i64 g') ∧ v1.cell? ⟨w.heap.size + 1, 8, none⟩ = some (.int .u64 (st' : Int)) ∧ v1.cell? ⟨w.heap.size + 1, 9, none⟩ = some (.bool y') ∧ v1.cell? ⟨g5, 0, none⟩ = some (.int .i64 k) ∧ v1.cell? ⟨g5, 1, none⟩ = some (.int .i64 s) ∧ v1.cell? ⟨g5, 2, none⟩ = some (.int .i64 q) ∧ v1.cell? ⟨g5, 3, none⟩ = some (.slice A1 n1 c1) ∧ v1.cell? ⟨g5, 4, none⟩ = some (.slice A2 n2 c2) ∧ v1.cell? ⟨g5, 5, none⟩ = some (.int .i64 i) ∧ v1.cell? ⟨g5, 6, none⟩ = some (.int .i64 j) ∧ v1.cell? ⟨g5, 7, none⟩ = some (.int .i64 g) ∧ v1.cell? ⟨g5, 8, none⟩ = some (.int .u64 (st : Int)) ∧ v1.cell? ⟨g5, 9, none⟩ = some (.bool y) ∧ v1.cell? ⟨g6, 0, none⟩ = some (.int .i64 k') ∧ v1.cell? ⟨g6, 1, none⟩ = some (.int .i64 s') ∧ v1.cell? ⟨g6, 2, none⟩ = some (.int .i64 q') ∧ v1.cell? ⟨g6, 3, none⟩ = some (.slice A1' n1' c1') ∧ v1.cell? ⟨g6, 4, none⟩ = some (.slice A2' n2' c2') ∧ v1.cell? ⟨g6, 5, none⟩ = some (.int .i64 i') ∧ v1.cell? ⟨g6, 6, none⟩ = some (.int .i64 j') ∧ v1.cell? ⟨g6, 7, none⟩ = some (.int .i64 g') ∧ v1.cell? ⟨g6, 8, none⟩ = some (.int .u64 (st' : Int)) ∧ v1.cell? ⟨g6, 9, none⟩ = some (.bool y') := ⟨cellB gg xa0, cellB gg xa1, cellB gg xa2, cellB gg xa3, cellB gg xa4, cellB gg xa5, cellB gg xa6, cellB gg xa7, cellB gg xa8, cellB gg xa9, cellB gg xb0, cellB gg xb1, cellB gg xb2, cellB gg xb3, cellB gg xb4, cellB gg xb5, cellB gg xb6, cellB gg xb7, cellB gg xb8, cellB gg xb9, cellB gg xc0, cellB gg xc1, cellB gg xc2, cellB gg xc3, cellB gg xc4, cellB gg xc5, cellB gg xc6, cellB gg xc7, cellB gg xc8, cellB gg xc9, cellB gg xd0, cellB gg xd1, cellB gg xd2, cellB gg xd3, cellB gg xd4, cellB gg xd5, cellB gg xd6, cellB gg xd7, cellB gg xd8, cellB gg xd9⟩; clear xa0 xa1 xa2 xa3 xa4 xa5 xa6 xa7 xa8 xa9 xb0 xb1 xb2 xb3 xb4 xb5 xb6 xb7 xb8 xb9 xc0 xc1 xc2 xc3 xc4 xc5 xc6 xc7 xc8 xc9 xd0 xd1 xd2 xd3 xd4 xd5 xd6 xd7 xd8 xd9) | (go_at_call 32; refine (HR.out _ (by exact bz)).mono ?_; rintro e v1 ⟨rfl, gg⟩; have bz := bz.trans (gg.mono bz.size); have kk := kc; obtain ⟨xa0, xa1, xa2, xa3, xa4, xa5, xa6, xa7, xa8, xa9, xb0, xb1, xb2, xb3, xb4, xb5, xb6, xb7, xb8, xb9, xc0, xc1, xc2, xc3, xc4, xc5, xc6, xc7, xc8, xc9, xd0, xd1, xd2, xd3, xd4, xd5, xd6, xd7, xd8, xd9⟩ := kk; have kc : v1.cell? ⟨w.heap.size, 0, none⟩ = some (.int .i64 k) ∧ v1.cell? ⟨w.heap.size, 1, none⟩ = some (.int .i64 s) ∧ v1.cell? ⟨w.heap.size, 2, none⟩ = some (.int .i64 q) ∧ v1.cell? ⟨w.heap.size, 3, none⟩ = some (.slice A1 n1 c1) ∧ v1.cell? ⟨w.heap.size, 4, none⟩ = some (.slice A2 n2 c2) ∧ v1.cell? ⟨w.heap.size, 5, none⟩ = some (.int .i64 i) ∧ v1.cell? ⟨w.heap.size, 6, none⟩ = some (.int .i64 j) ∧ v1.cell? ⟨w.heap.size, 7, none⟩ = some (.int .i64 g) ∧ v1.cell? ⟨w.heap.size, 8, none⟩ = some (.int .u64 (st : Int)) ∧ v1.cell? ⟨w.heap.size, 9, none⟩ = some (.bool y) ∧ v1.cell? ⟨w.heap.size + 1, 0, none⟩ = some (.int .i64 k') ∧ v1.cell? ⟨w.heap.size + 1, 1, none⟩ = some (.int .i64 s') ∧ v1.cell? ⟨w.heap.size + 1, 2, none⟩ = some (.int .i64 q') ∧ v1.cell? ⟨w.heap.size + 1, 3, none⟩ = some (.slice A1' n1' c1') ∧ v1.cell? ⟨w.heap.size + 1, 4, none⟩ = some (.slice A2' n2' c2') ∧ v1.cell? ⟨w.heap.size + 1, 5, none⟩ = some (.int .i64 i') ∧ v1.cell? ⟨w.heap.size + 1, 6, none⟩ = some (.int .i64 j') ∧ v1.cell? ⟨w.heap.size + 1, 7, none⟩ = some (.int .i64 g') ∧ v1.cell? ⟨w.heap.size + 1, 8, none⟩ = some (.int .u64 (st' : Int)) ∧ v1.cell? ⟨w.heap.size + 1, 9, none⟩ = some (.bool y') ∧ v1.cell? ⟨g5, 0, none⟩ = some (.int .i64 k) ∧ v1.cell? ⟨g5, 1, none⟩ = some (.int .i64 s) ∧ v1.cell? ⟨g5, 2, none⟩ = some (.int .i64 q) ∧ v1.cell? ⟨g5, 3, none⟩ = some (.slice A1 n1 c1) ∧ v1.cell? ⟨g5, 4, none⟩ = some (.slice A2 n2 c2) ∧ v1.cell? ⟨g5, 5, none⟩ = some (.int .i64 i) ∧ v1.cell? ⟨g5, 6, none⟩ = some (.int .i64 j) ∧ v1.cell? ⟨g5, 7, none⟩ = some (.int .i64 g) ∧ v1.cell? ⟨g5, 8, none⟩ = some (.int .u64 (st : Int)) ∧ v1.cell? ⟨g5, 9, none⟩ = some (.bool y) ∧ v1.cell? ⟨g6, 0, none⟩ = some (.int .i64 k') ∧ v1.cell? ⟨g6, 1, none⟩ = some (.int .i64 s') ∧ v1.cell? ⟨g6, 2, none⟩ = some (.int .i64 q') ∧ v1.cell? ⟨g6, 3, none⟩ = some (.slice A1' n1' c1') ∧ v1.cell? ⟨g6, 4, none⟩ = some (.slice A2' n2' c2') ∧ v1.cell? ⟨g6, 5, none⟩ = some (.int .i64 i') ∧ v1.cell? ⟨g6, 6, none⟩ = some (.int .i64 j') ∧ v1.cell? ⟨g6, 7, none⟩ = some (.int .i64 g') ∧ v1.cell? ⟨g6, 8, none⟩ = some (.int .u64 (st' : Int)) ∧ v1.cell? ⟨g6, 9, none⟩ = some (.bool y') := ⟨cellB gg xa0, cellB gg xa1, cellB gg xa2, cellB gg xa3, cellB gg xa4, cellB gg xa5, cellB gg xa6, cellB gg xa7, cellB gg xa8, cellB gg xa9, cellB gg xb0, cellB gg xb1, cellB gg xb2, cellB gg xb3, cellB gg xb4, cellB gg xb5, cellB gg xb6, cellB gg xb7, cellB gg xb8, cellB gg xb9, cellB gg xc0, cellB gg xc1, cellB gg xc2, cellB gg xc3, cellB gg xc4, cellB gg xc5, cellB gg xc6, cellB gg xc7, cellB gg xc8, cellB gg xc9, cellB gg xd0, cellB gg xd1, cellB gg xd2, cellB gg xd3, cellB gg xd4, cellB gg xd5, cellB gg xd6, cellB gg xd7, cellB gg xd8, cellB gg xd9⟩; clear xa0 xa1 xa2 xa3 xa4 xa5 xa6 xa7 xa8 xa9 xb0 xb1 xb2 xb3 xb4 xb5 xb6 xb7 xb8 xb9 xc0 xc1 xc2 xc3 xc4 xc5 xc6 xc7 xc8 xc9 xd0 xd1 xd2 xd3 xd4 xd5 xd6 xd7 xd8 xd9) | (go_at_call 33; refine (HL.out _).mono ?_; rintro e v1 ⟨rfl, gg⟩; have bz := bz.trans (gg.mono bz.size); have kk := kc; obtain ⟨xa0, xa1, xa2, xa3, xa4, xa5, xa6, xa7, xa8, xa9, xb0, xb1, xb2, xb3, xb4, xb5, xb6, xb7, xb8, xb9, xc0, xc1, xc2, xc3, xc4, xc5, xc6, xc7, xc8, xc9, xd0, xd1, xd2, xd3, xd4, xd5, xd6, xd7, xd8, xd9⟩ := kk; have kc : v1.cell? ⟨w.heap.size, 0, none⟩ = some (.int .i64 k) ∧ v1.cell? ⟨w.heap.size, 1, none⟩ = some (.int .i64 s) ∧ v1.cell? ⟨w.heap.size, 2, none⟩ = some (.int .i64 q) ∧ v1.cell? ⟨w.heap.size, 3, none⟩ = some (.slice A1 n1 c1) ∧ v1.cell? ⟨w.heap.size, 4, none⟩ = some (.slice A2 n2 c2) ∧ v1.cell? ⟨w.heap.size, 5, none⟩ = some (.int .i64 i) ∧ v1.cell? ⟨w.heap.size, 6, none⟩ = some (.int .i64 j) ∧ v1.cell? ⟨w.heap.size, 7, none⟩ = some (.int .i64 g) ∧ v1.cell? ⟨w.heap.size, 8, none⟩ = some (.int .u64 (st : Int)) ∧ v1.cell? ⟨w.heap.size, 9, none⟩ = some (.bool y) ∧ v1.cell? ⟨w.heap.size + 1, 0, none⟩ = some (.int .i64 k') ∧ v1.cell? ⟨w.heap.size + 1, 1, none⟩ = some (.int .i64 s') ∧ v1.cell? ⟨w.heap.size + 1, 2, none⟩ = some (.int .i64 q') ∧ v1.cell? ⟨w.heap.size + 1, 3, none⟩ = some (.slice A1' n1' c1') ∧ v1.cell? ⟨w.heap.size + 1, 4, none⟩ = some (.slice A2' n2' c2') ∧ v1.cell? ⟨w.heap.size + 1, 5, none⟩ = some (.int .i64 i') ∧ v1.cell? ⟨w.heap.size + 1, 6, none⟩ = some (.int .i64 j') ∧ v1.cell? ⟨w.heap.size + 1, 7, none⟩ = some (.int .i64 g') ∧ v1.cell? ⟨w.heap.size + 1, 8, none⟩ = some (.int .u64 (st' : Int)) ∧ v1.cell? ⟨w.heap.size + 1, 9, none⟩ = some (.bool y') ∧ v1.cell? ⟨g5, 0, none⟩ = some (.int .i64 k) ∧ v1.cell? ⟨g5, 1, none⟩ = some (.int .i64 s) ∧ v1.cell? ⟨g5, 2, none⟩ = some (.int .i64 q) ∧ v1.cell? ⟨g5, 3, none⟩ = some (.slice A1 n1 c1) ∧ v1.cell? ⟨g5, 4, none⟩ = some (.slice A2 n2 c2) ∧ v1.cell? ⟨g5, 5, none⟩ = some (.int .i64 i) ∧ v1.cell? ⟨g5, 6, none⟩ = some (.int .i64 j) ∧ v1.cell? ⟨g5, 7, none⟩ = some (.int .i64 g) ∧ v1.cell? ⟨g5, 8, none⟩ = some (.int .u64 (st : Int)) ∧ v1.cell? ⟨g5, 9, none⟩ = some (.bool y) ∧ v1.cell? ⟨g6, 0, none⟩ = some (.int .i64 k') ∧ v1.cell? ⟨g6, 1, none⟩ = some (.int .i64 s') ∧ v1.cell? ⟨g6, 2, none⟩ = some (.int .i64 q') ∧ v1.cell? ⟨g6, 3, none⟩ = some (.slice A1' n1' c1') ∧ v1.cell? ⟨g6, 4, none⟩ = some (.slice A2' n2' c2') ∧ v1.cell? ⟨g6, 5, none⟩ = some (.int .i64 i') ∧ v1.cell? ⟨g6, 6, none⟩ = some (.int .i64 j') ∧ v1.cell? ⟨g6, 7, none⟩ = some (.int .i64 g') ∧ v1.cell? ⟨g6, 8, none⟩ = some (.int .u64 (st' : Int)) ∧ v1.cell? ⟨g6, 9, none⟩ = some (.bool y') := ⟨cellB gg xa0, cellB gg xa1, cellB gg xa2, cellB gg xa3, cellB gg xa4, cellB gg xa5, cellB gg xa6, cellB gg xa7, cellB gg xa8, cellB gg xa9, cellB gg xb0, cellB gg xb1, cellB gg xb2, cellB gg xb3, cellB gg xb4, cellB gg xb5, cellB gg xb6, cellB gg xb7, cellB gg xb8, cellB gg xb9, cellB gg xc0, cellB gg xc1, cellB gg xc2, cellB gg xc3, cellB gg xc4, cellB gg xc5, cellB gg xc6, cellB gg xc7, cellB gg xc8, cellB gg xc9, cellB gg xd0, cellB gg xd1, cellB gg xd2, cellB gg xd3, cellB gg xd4, cellB gg xd5, cellB gg xd6, cellB gg xd7, cellB gg xd8, cellB gg xd9⟩; clear xa0 xa1 xa2 xa3 xa4 xa5 xa6 xa7 xa8 xa9 xb0 xb1 xb2 xb3 xb4 xb5 xb6 xb7 xb8 xb9 xc0 xc1 xc2 xc3 xc4 xc5 xc6 xc7 xc8 xc9 xd0 xd1 xd2 xd3 xd4 xd5 xd6 xd7 xd8 xd9) | (go_at_call 34; refine (HM.out _).mono ?_; rintro e v1 ⟨rfl, gg⟩; have bz := bz.trans (gg.mono bz.size); have kk := kc; obtain ⟨xa0, xa1, xa2, xa3, xa4, xa5, xa6, xa7, xa8, xa9, xb0, xb1, xb2, xb3, xb4, xb5, xb6, xb7, xb8, xb9, xc0, xc1, xc2, xc3, xc4, xc5, xc6, xc7, xc8, xc9, xd0, xd1, xd2, xd3, xd4, xd5, xd6, xd7, xd8, xd9⟩ := kk; have kc : v1.cell? ⟨w.heap.size, 0, none⟩ = some (.int .i64 k) ∧ v1.cell? ⟨w.heap.size, 1, none⟩ = some (.int .i64 s) ∧ v1.cell? ⟨w.heap.size, 2, none⟩ = some (.int .i64 q) ∧ v1.cell? ⟨w.heap.size, 3, none⟩ = some (.slice A1 n1 c1) ∧ v1.cell? ⟨w.heap.size, 4, none⟩ = some (.slice A2 n2 c2) ∧ v1.cell? ⟨w.heap.size, 5, none⟩ = some (.int .i64 i) ∧ v1.cell? ⟨w.heap.size, 6, none⟩ = some (.int .i64 j) ∧ v1.cell? ⟨w.heap.size, 7, none⟩ = some (.int .i64 g) ∧ v1.cell? ⟨w.heap.size, 8, none⟩ = some (.int .u64 (st : Int)) ∧ v1.cell? ⟨w.heap.size, 9, none⟩ = some (.bool y) ∧ v1.cell? ⟨w.heap.size + 1, 0, none⟩ = some (.int .i64 k') ∧ v1.cell? ⟨w.heap.size + 1, 1, none⟩ = some (.int .i64 s') ∧ v1.cell? ⟨w.heap.size + 1, 2, none⟩ = some (.int .i64 q') ∧ v1.cell? ⟨w.heap.size + 1, 3, none⟩ = some (.slice A1' n1' c1') ∧ v1.cell? ⟨w.heap.size + 1, 4, none⟩ = some (.slice A2' n2' c2') ∧ v1.cell? ⟨w.heap.size + 1, 5, none⟩ = some (.int .i64 i') ∧ v1.cell? ⟨w.heap.size + 1, 6, none⟩ = some (.int .i64 j') ∧ v1.cell? ⟨w.heap.size + 1, 7, none⟩ = some (.int .i64 g') ∧ v1.cell? ⟨w.heap.size + 1, 8, none⟩ = some (.int .u64 (st' : Int)) ∧ v1.cell? ⟨w.heap.size + 1, 9, none⟩ = some (.bool y') ∧ v1.cell? ⟨g5, 0, none⟩ = some (.int .i64 k) ∧ v1.cell? ⟨g5, 1, none⟩ = some (.int .i64 s) ∧ v1.cell? ⟨g5, 2, none⟩ = some (.int .i64 q) ∧ v1.cell? ⟨g5, 3, none⟩ = some (.slice A1 n1 c1) ∧ v1.cell? ⟨g5, 4, none⟩ = some (.slice A2 n2 c2) ∧ v1.cell? ⟨g5, 5, none⟩ = some (.int .i64 i) ∧ v1.cell? ⟨g5, 6, none⟩ = some (.int .i64 j) ∧ v1.cell? ⟨g5, 7, none⟩ = some (.int .i64 g) ∧ v1.cell? ⟨g5, 8, none⟩ = some (.int .u64 (st : Int)) ∧ v1.cell? ⟨g5, 9, none⟩ = some (.bool y) ∧ v1.cell? ⟨g6, 0, none⟩ = some (.int .i64 k') ∧ v1.cell? ⟨g6, 1, none⟩ = some (.int .i64 s') ∧ v1.cell? ⟨g6, 2, none⟩ = some (.int .i64 q') ∧ v1.cell? ⟨g6, 3, none⟩ = some (.slice A1' n1' c1') ∧ v1.cell? ⟨g6, 4, none⟩ = some (.slice A2' n2' c2') ∧ v1.cell? ⟨g6, 5, none⟩ = some (.int .i64 i') ∧ v1.cell? ⟨g6, 6, none⟩ = some (.int .i64 j') ∧ v1.cell? ⟨g6, 7, none⟩ = some (.int .i64 g') ∧ v1.cell? ⟨g6, 8, none⟩ = some (.int .u64 (st' : Int)) ∧ v1.cell? ⟨g6, 9, none⟩ = some (.bool y') := ⟨cellB gg xa0, cellB gg xa1, cellB gg xa2, cellB gg xa3, cellB gg xa4, cellB gg xa5, cellB gg xa6, cellB gg xa7, cellB gg xa8, cellB gg xa9, cellB gg xb0, cellB gg xb1, cellB gg xb2, cellB gg xb3, cellB gg xb4, cellB gg xb5, cellB gg xb6, cellB gg xb7, cellB gg xb8, cellB gg xb9, cellB gg xc0, cellB gg xc1, cellB gg xc2, cellB gg xc3, cellB gg xc4, cellB gg xc5, cellB gg xc6, cellB gg xc7, cellB gg xc8, cellB gg xc9, cellB gg xd0, cellB gg xd1, cellB gg xd2, cellB gg xd3, cellB gg xd4, cellB gg xd5, cellB gg xd6, cellB gg xd7, cellB gg xd8, cellB gg xd9⟩; clear xa0 xa1 xa2 xa3 xa4 xa5 xa6 xa7 xa8 xa9 xb0 xb1 xb2 xb3 xb4 xb5 xb6 xb7 xb8 xb9 xc0 xc1 xc2 xc3 xc4 xc5 xc6 xc7 xc8 xc9 xd0 xd1 xd2 xd3 xd4 xd5 xd6 xd7 xd8 xd9) | (go_at_call_of 31 (Value.agg #[.int .i64 k', .int .i64 s', .int .i64 q', .slice A1' n1' c1', .slice A2' n2' c2', .int .i64 i', .int .i64 j', .int .i64 g', .int .u64 (st' : Int), .bool y']); refine (HS.out _ (by exact bz)).mono ?_; rintro e v1 ⟨rfl, gg⟩; have bz := bz.trans (gg.mono bz.size); have kk := kc; obtain ⟨xa0, xa1, xa2, xa3, xa4, xa5, xa6, xa7, xa8, xa9, xb0, xb1, xb2, xb3, xb4, xb5, xb6, xb7, xb8, xb9, xc0, xc1, xc2, xc3, xc4, xc5, xc6, xc7, xc8, xc9, xd0, xd1, xd2, xd3, xd4, xd5, xd6, xd7, xd8, xd9⟩ := kk; have kc : v1.cell? ⟨w.heap.size, 0, none⟩ = some (.int .i64 k) ∧ v1.cell? ⟨w.heap.size, 1, none⟩ = some (.int .i64 s) ∧ v1.cell? ⟨w.heap.size, 2, none⟩ = some (.int .i64 q) ∧ v1.cell? ⟨w.heap.size, 3, none⟩ = some (.slice A1 n1 c1) ∧ v1.cell? ⟨w.heap.size, 4, none⟩ = some (.slice A2 n2 c2) ∧ v1.cell? ⟨w.heap.size, 5, none⟩ = some (.int .i64 i) ∧ v1.cell? ⟨w.heap.size, 6, none⟩ = some (.int .i64 j) ∧ v1.cell? ⟨w.heap.size, 7, none⟩ = some (.int .i64 g) ∧ v1.cell? ⟨w.heap.size, 8, none⟩ = some (.int .u64 (st : Int)) ∧ v1.cell? ⟨w.heap.size, 9, none⟩ = some (.bool y) ∧ v1.cell? ⟨w.heap.size + 1, 0, none⟩ = some (.int .i64 k') ∧ v1.cell? ⟨w.heap.size + 1, 1, none⟩ = some (.int .i64 s') ∧ v1.cell? ⟨w.heap.size + 1, 2, none⟩ = some (.int .i64 q') ∧ v1.cell? ⟨w.heap.size + 1, 3, none⟩ = some (.slice A1' n1' c1') ∧ v1.cell? ⟨w.heap.size + 1, 4, none⟩ = some (.slice A2' n2' c2') ∧ v1.cell? ⟨w.heap.size + 1, 5, none⟩ = some (.int .i64 i') ∧ v1.cell? ⟨w.heap.size + 1, 6, none⟩ = some (.int .i64 j') ∧ v1.cell? ⟨w.heap.size + 1, 7, none⟩ = some (.int .i64 g') ∧ v1.cell? ⟨w.heap.size + 1, 8, none⟩ = some (.int .u64 (st' : Int)) ∧ v1.cell? ⟨w.heap.size + 1, 9, none⟩ = some (.bool y') ∧ v1.cell? ⟨g5, 0, none⟩ = some (.int .i64 k) ∧ v1.cell? ⟨g5, 1, none⟩ = some (.int .i64 s) ∧ v1.cell? ⟨g5, 2, none⟩ = some (.int .i64 q) ∧ v1.cell? ⟨g5, 3, none⟩ = some (.slice A1 n1 c1) ∧ v1.cell? ⟨g5, 4, none⟩ = some (.slice A2 n2 c2) ∧ v1.cell? ⟨g5, 5, none⟩ = some (.int .i64 i) ∧ v1.cell? ⟨g5, 6, none⟩ = some (.int .i64 j) ∧ v1.cell? ⟨g5, 7, none⟩ = some (.int .i64 g) ∧ v1.cell? ⟨g5, 8, none⟩ = some (.int .u64 (st : Int)) ∧ v1.cell? ⟨g5, 9, none⟩ = some (.bool y) ∧ v1.cell? ⟨g6, 0, none⟩ = some (.int .i64 k') ∧ v1.cell? ⟨g6, 1, none⟩ = some (.int .i64 s') ∧ v1.cell? ⟨g6, 2, none⟩ = some (.int .i64 q') ∧ v1.cell? ⟨g6, 3, none⟩ = some (.slice A1' n1' c1') ∧ v1.cell? ⟨g6, 4, none⟩ = some (.slice A2' n2' c2') ∧ v1.cell? ⟨g6, 5, none⟩ = some (.int .i64 i') ∧ v1.cell? ⟨g6, 6, none⟩ = some (.int .i64 j') ∧ v1.cell? ⟨g6, 7, none⟩ = some (.int .i64 g') ∧ v1.cell? ⟨g6, 8, none⟩ = some (.int .u64 (st' : Int)) ∧ v1.cell? ⟨g6, 9, none⟩ = some (.bool y') := ⟨cellB gg xa0, cellB gg xa1, cellB gg xa2, cellB gg xa3, cellB gg xa4, cellB gg xa5, cellB gg xa6, cellB gg xa7, cellB gg xa8, cellB gg xa9, cellB gg xb0, cellB gg xb1, cellB gg xb2, cellB gg xb3, cellB gg xb4, cellB gg xb5, cellB gg xb6, cellB gg xb7, cellB gg xb8, cellB gg xb9, cellB gg xc0, cellB gg xc1, cellB gg xc2, cellB gg xc3, cellB gg xc4, cellB gg xc5, cellB gg xc6, cellB gg xc7, cellB gg xc8, cellB gg xc9, cellB gg xd0, cellB gg xd1, cellB gg xd2, cellB gg xd3, cellB gg xd4, cellB gg xd5, cellB gg xd6, cellB gg xd7, cellB gg xd8, cellB gg xd9⟩; clear xa0 xa1 xa2 xa3 xa4 xa5 xa6 xa7 xa8 xa9 xb0 xb1 xb2 xb3 xb4 xb5 xb6 xb7 xb8 xb9 xc0 xc1 xc2 xc3 xc4 xc5 xc6 xc7 xc8 xc9 xd0 xd1 xd2 xd3 xd4 xd5 xd6 xd7 xd8 xd9) | (go_at_call 16; refine (HT.out _ (by exact bz)).mono ?_; rintro e v1 ⟨rfl, gg⟩; have bz := bz.trans (gg.mono bz.size); have kk := kc; obtain ⟨xa0, xa1, xa2, xa3, xa4, xa5, xa6, xa7, xa8, xa9, xb0, xb1, xb2, xb3, xb4, xb5, xb6, xb7, xb8, xb9, xc0, xc1, xc2, xc3, xc4, xc5, xc6, xc7, xc8, xc9, xd0, xd1, xd2, xd3, xd4, xd5, xd6, xd7, xd8, xd9⟩ := kk; have kc : v1.cell? ⟨w.heap.size, 0, none⟩ = some (.int .i64 k) ∧ v1.cell? ⟨w.heap.size, 1, none⟩ = some (.int .i64 s) ∧ v1.cell? ⟨w.heap.size, 2, none⟩ = some (.int .i64 q) ∧ v1.cell? ⟨w.heap.size, 3, none⟩ = some (.slice A1 n1 c1) ∧ v1.cell? ⟨w.heap.size, 4, none⟩ = some (.slice A2 n2 c2) ∧ v1.cell? ⟨w.heap.size, 5, none⟩ = some (.int .i64 i) ∧ v1.cell? ⟨w.heap.size, 6, none⟩ = some (.int .i64 j) ∧ v1.cell? ⟨w.heap.size, 7, none⟩ = some (.int .i64 g) ∧ v1.cell? ⟨w.heap.size, 8, none⟩ = some (.int .u64 (st : Int)) ∧ v1.cell? ⟨w.heap.size, 9, none⟩ = some (.bool y) ∧ v1.cell? ⟨w.heap.size + 1, 0, none⟩ = some (.int .i64 k') ∧ v1.cell? ⟨w.heap.size + 1, 1, none⟩ = some (.int .i64 s') ∧ v1.cell? ⟨w.heap.size + 1, 2, none⟩ = some (.int .i64 q') ∧ v1.cell? ⟨w.heap.size + 1, 3, none⟩ = some (.slice A1' n1' c1') ∧ v1.cell? ⟨w.heap.size + 1, 4, none⟩ = some (.slice A2' n2' c2') ∧ v1.cell? ⟨w.heap.size + 1, 5, none⟩ = some (.int .i64 i') ∧ v1.cell? ⟨w.heap.size + 1, 6, none⟩ = some (.int .i64 j') ∧ v1.cell? ⟨w.heap.size + 1, 7, none⟩ = some (.int .i64 g') ∧ v1.cell? ⟨w.heap.size + 1, 8, none⟩ = some (.int .u64 (st' : Int)) ∧ v1.cell? ⟨w.heap.size + 1, 9, none⟩ = some (.bool y') ∧ v1.cell? ⟨g5, 0, none⟩ = some (.int .i64 k) ∧ v1.cell? ⟨g5, 1, none⟩ = some (.int .i64 s) ∧ v1.cell? ⟨g5, 2, none⟩ = some (.int .i64 q) ∧ v1.cell? ⟨g5, 3, none⟩ = some (.slice A1 n1 c1) ∧ v1.cell? ⟨g5, 4, none⟩ = some (.slice A2 n2 c2) ∧ v1.cell? ⟨g5, 5, none⟩ = some (.int .i64 i) ∧ v1.cell? ⟨g5, 6, none⟩ = some (.int .i64 j) ∧ v1.cell? ⟨g5, 7, none⟩ = some (.int .i64 g) ∧ v1.cell? ⟨g5, 8, none⟩ = some (.int .u64 (st : Int)) ∧ v1.cell? ⟨g5, 9, none⟩ = some (.bool y) ∧ v1.cell? ⟨g6, 0, none⟩ = some (.int .i64 k') ∧ v1.cell? ⟨g6, 1, none⟩ = some (.int .i64 s') ∧ v1.cell? ⟨g6, 2, none⟩ = some (.int .i64 q') ∧ v1.cell? ⟨g6, 3, none⟩ = some (.slice A1' n1' c1') ∧ v1.cell? ⟨g6, 4, none⟩ = some (.slice A2' n2' c2') ∧ v1.cell? ⟨g6, 5, none⟩ = some (.int .i64 i') ∧ v1.cell? ⟨g6, 6, none⟩ = some (.int .i64 j') ∧ v1.cell? ⟨g6, 7, none⟩ = some (.int .i64 g') ∧ v1.cell? ⟨g6, 8, none⟩ = some (.int .u64 (st' : Int)) ∧ v1.cell? ⟨g6, 9, none⟩ = some (.bool y') := ⟨cellB gg xa0, cellB gg xa1, cellB gg xa2, cellB gg xa3, cellB gg xa4, cellB gg xa5, cellB gg xa6, cellB gg xa7, cellB gg xa8, cellB gg xa9, cellB gg xb0, cellB gg xb1, cellB gg xb2, cellB gg xb3, cellB gg xb4, cellB gg xb5, cellB gg xb6, cellB gg xb7, cellB gg xb8, cellB gg xb9, cellB gg xc0, cellB gg xc1, cellB gg xc2, cellB gg xc3, cellB gg xc4, cellB gg xc5, cellB gg xc6, cellB gg xc7, cellB gg xc8, cellB gg xc9, cellB gg xd0, cellB gg xd1, cellB gg xd2, cellB gg xd3, cellB gg xd4, cellB gg xd5, cellB gg xd6, cellB gg xd7, cellB gg xd8, cellB gg xd9⟩; clear xa0 xa1 xa2 xa3 xa4 xa5 xa6 xa7 xa8 xa9 xb0 xb1 xb2 xb3 xb4 xb5 xb6 xb7 xb8 xb9 xc0 xc1 xc2 xc3 xc4 xc5 xc6 xc7 xc8 xc9 xd0 xd1 xd2 xd3 xd4 xd5 xd6 xd7 xd8 xd9) | (go_at_call 31; refine (HU.out _ (by exact bz)).mono ?_; rintro e v1 ⟨rfl, gg⟩; have bz := bz.trans (gg.mono bz.size); have kk := kc; obtain ⟨xa0, xa1, xa2, xa3, xa4, xa5, xa6, xa7, xa8, xa9, xb0, xb1, xb2, xb3, xb4, xb5, xb6, xb7, xb8, xb9, xc0, xc1, xc2, xc3, xc4, xc5, xc6, xc7, xc8, xc9, xd0, xd1, xd2, xd3, xd4, xd5, xd6, xd7, xd8, xd9⟩ := kk; have kc : v1.cell? ⟨w.heap.size, 0, none⟩ = some (.int .i64 k) ∧ v1.cell? ⟨w.heap.size, 1, none⟩ = some (.int .i64 s) ∧ v1.cell? ⟨w.heap.size, 2, none⟩ = some (.int .i64 q) ∧ v1.cell? ⟨w.heap.size, 3, none⟩ = some (.slice A1 n1 c1) ∧ v1.cell? ⟨w.heap.size, 4, none⟩ = some (.slice A2 n2 c2) ∧ v1.cell? ⟨w.heap.size, 5, none⟩ = some (.int .i64 i) ∧ v1.cell? ⟨w.heap.size, 6, none⟩ = some (.int .i64 j) ∧ v1.cell? ⟨w.heap.size, 7, none⟩ = some (.int .i64 g) ∧ v1.cell? ⟨w.heap.size, 8, none⟩ = some (.int .u64 (st : Int)) ∧ v1.cell? ⟨w.heap.size, 9, none⟩ = some (.bool y) ∧ v1.cell? ⟨w.heap.size + 1, 0, none⟩ = some (.int .i64 k') ∧ v1.cell? ⟨w.heap.size + 1, 1, none⟩ = some (.int .i64 s') ∧ v1.cell? ⟨w.heap.size + 1, 2, none⟩ = some (.int .i64 q') ∧ v1.cell? ⟨w.heap.size + 1, 3, none⟩ = some (.slice A1' n1' c1') ∧ v1.cell? ⟨w.heap.size + 1, 4, none⟩ = some (.slice A2' n2' c2') ∧ v1.cell? ⟨w.heap.size + 1, 5, none⟩ = some (.int .i64 i') ∧ v1.cell? ⟨w.heap.size + 1, 6, none⟩ = some (.int .i64 j') ∧ v1.cell? ⟨w.heap.size + 1, 7, none⟩ = some (.int .i64 g') ∧ v1.cell? ⟨w.heap.size + 1, 8, none⟩ = some (.int .u64 (st' : Int)) ∧ v1.cell? ⟨w.heap.size + 1, 9, none⟩ = some (.bool y') ∧ v1.cell? ⟨g5, 0, none⟩ = some (.int .i64 k) ∧ v1.cell? ⟨g5, 1, none⟩ = some (.int .i64 s) ∧ v1.cell? ⟨g5, 2, none⟩ = some (.int .i64 q) ∧ v1.cell? ⟨g5, 3, none⟩ = some (.slice A1 n1 c1) ∧ v1.cell? ⟨g5, 4, none⟩ = some (.slice A2 n2 c2) ∧ v1.cell? ⟨g5, 5, none⟩ = some (.int .i64 i) ∧ v1.cell? ⟨g5, 6, none⟩ = some (.int .i64 j) ∧ v1.cell? ⟨g5, 7, none⟩ = some (.int .i64 g) ∧ v1.cell? ⟨g5, 8, none⟩ = some (.int .u64 (st : Int)) ∧ v1.cell? ⟨g5, 9, none⟩ = some (.bool y) ∧ v1.cell? ⟨g6, 0, none⟩ = some (.int .i64 k') ∧ v1.cell? ⟨g6, 1, none⟩ = some (.int .i64 s') ∧ v1.cell? ⟨g6, 2, none⟩ = some (.int .i64 q') ∧ v1.cell? ⟨g6, 3, none⟩ = some (.slice A1' n1' c1') ∧ v1.cell? ⟨g6, 4, none⟩ = some (.slice A2' n2' c2') ∧ v1.cell? ⟨g6, 5, none⟩ = some (.int .i64 i') ∧ v1.cell? ⟨g6, 6, none⟩ = some (.int .i64 j') ∧ v1.cell? ⟨g6, 7, none⟩ = some (.int .i64 g') ∧ v1.cell? ⟨g6, 8, none⟩ = some (.int .u64 (st' : Int)) ∧ v1.cell? ⟨g6, 9, none⟩ = some (.bool y') := ⟨cellB gg xa0, cellB gg xa1, cellB gg xa2, cellB gg xa3, cellB gg xa4, cellB gg xa5, cellB gg xa6, cellB gg xa7, cellB gg xa8, cellB gg xa9, cellB gg xb0, cellB gg xb1, cellB gg xb2, cellB gg xb3, cellB gg xb4, cellB gg xb5, cellB gg xb6, cellB gg xb7, cellB gg xb8, cellB gg xb9, cellB gg xc0, cellB gg xc1, cellB gg xc2, cellB gg xc3, cellB gg xc4, cellB gg xc5, cellB gg xc6, cellB gg xc7, cellB gg xc8, cellB gg xc9, cellB gg xd0, cellB gg xd1, cellB gg xd2, cellB gg xd3, cellB gg xd4, cellB gg xd5, cellB gg xd6, cellB gg xd7, cellB gg xd8, cellB gg xd9⟩; clear xa0 xa1 xa2 xa3 xa4 xa5 xa6 xa7 xa8 xa9 xb0 xb1 xb2 xb3 xb4 xb5 xb6 xb7 xb8 xb9 xc0 xc1 xc2 xc3 xc4 xc5 xc6 xc7 xc8 xc9 xd0 xd1 xd2 xd3 xd4 xd5 xd6 xd7 xd8 xd9))
        all_goals
          go_wp2_with fail
          go_ret
          exact ⟨rfl, bz⟩
theorem commandForms_walk (W : World) (hT : Tabs W) (v0 v1 : Value) (h0 : Arg W 37 v0) (h1 : Arg W 37 v1) :
    Calls Tryd.prog 8 #[v0, v1] W fun e W' => e = .returned (.bool true) ∧ Below W.heap.size W W' := by
  obtain ⟨k, s, q, rs, ws, A1, c1, A2, c2, i, j, g, st, y, rfl, ok, _⟩ := h0.cmd
  obtain ⟨k', s', q', rs', ws', A1', c1', A2', c2', i', j', g', st', y', rfl, ok', _⟩ := h1.cmd
  exact cforms_mid k s q rs ws A1 c1 A2 c2 i j g st y k' s' q' rs' ws' A1' c1' A2' c2' i' j' g' st' y' W ok ok' hT
end Go.Proofs.YtkfnepmiigkdfaaDoor
