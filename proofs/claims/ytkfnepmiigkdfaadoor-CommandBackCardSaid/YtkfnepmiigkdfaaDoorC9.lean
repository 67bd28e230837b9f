/- The walks of parishlaw09's awake and few. Conditions: what lies, lies below; the tables lie. (As in XCmdForms.) -/
import Derived.Test.YtkfnepmiigkdfaaDoorTxnF
import Derived.Test.YtkfnepmiigkdfaaDoorTxnG
import Derived.Test.YtkfnepmiigkdfaaDoorCodeWalks
namespace Go.Proofs.YtkfnepmiigkdfaaDoor
set_option maxRecDepth 20000
open Go.RowKit T
set_option linter.unusedSimpArgs false
set_option linter.unusedVariables false

theorem cformed_zero (w : World) (hT : Tabs w) : Calls Tryd.prog 28 #[.agg #[.int .i64 0, .int .i64 0, .int .i64 0, .slice none 0 0, .slice none 0 0, .int .i64 0, .int .i64 0, .int .i64 0, .int .u64 0, .bool false]] w fun e w' => e = .returned (.bool true) ∧ Below w.heap.size w w' := by
  have := cformed_any 0 0 0 [] [] none 0 none 0 0 0 0 0 false w 0 (Nat.zero_le _) TxOk.zero hT
  exact this
set_option maxHeartbeats 1600000 in
theorem cput_zero (w : World) (hT : Tabs w) : Calls Tryd.prog 29 #[.slice none 0 0, .agg #[.int .i64 0, .int .i64 0, .int .i64 0, .slice none 0 0, .slice none 0 0, .int .i64 0, .int .i64 0, .int .i64 0, .int .u64 0, .bool false]] w (MadeB w (C.be 0 (C.clamp8 1))) := by
  have g0 : Below w.heap.size w (w.alloc (.cells #[.int .i64 0, .int .i64 0, .int .i64 0, .slice none 0 0, .slice none 0 0, .int .i64 0, .int .i64 0, .int .i64 0, .int .u64 0, .bool false] 37)) := (Below.refl _ _).alloc (Nat.le_refl _) _
  have HF := Lib.hid (cformed_zero _ (hT.below g0))
  have a0 : (w.alloc (.cells #[.int .i64 0, .int .i64 0, .int .i64 0, .slice none 0 0, .slice none 0 0, .int .i64 0, .int .i64 0, .int .i64 0, .int .u64 0, .bool false] 37)).cell? ⟨w.heap.size, 0, none⟩ = some (.int .i64 0) := by simp
  go_enter Tryd.func29, Tryd.ntmps29
  go_wp2_with fail
  refine HF.out.mono ?_
  rintro e w1 ⟨rfl, b1⟩
  have a1 := cellB b1 a0
  have e1 := g0.trans (b1.mono g0.size)
  go_wp2_with fail
  refine (put_any none 0 [] 0 1 w1 w1.heap.size (by simp) (fun _ => ⟨rfl, rfl⟩) Rd.nil (Nat.le_refl _) (by omega)).mono ?_
  rintro e w2 ⟨v, rfl, o2, b2⟩
  have a2 := cellB b2 a1
  go_wp2_with fail
  go_ret
  exact ⟨_, rfl, ownMore o2 e1.size, e1.trans (b2.mono e1.size)⟩
set_option maxHeartbeats 1600000 in
theorem c9_awake (w : World) (hT : Tabs w) : Calls Tryd.prog 26 #[] w fun e w' => e = .returned (.bool true) ∧ Below w.heap.size w w' := by
  have HF := Lib.hid (cformed_zero _ hT)
  have HP := Lib.hid (fun z (hz : Below w.heap.size w z) => cput_zero z (hT.below hz))
  go_enter Tryd.func26, Tryd.ntmps26
  go_wp2_with fail
  refine HF.out.mono ?_
  rintro e w1 ⟨rfl, b1⟩
  go_wp2_with fail
  refine (HP.out w1 b1).mono ?_
  rintro e w2 ⟨v, rfl, o2, b2⟩
  obtain ⟨A, c, rfl, _, _, _⟩ := ownShape o2
  have hl : (C.be 0 (C.clamp8 1)).length = 1 := by decide
  rw [hl]
  clear o2
  go_wp2_with fail
  go_ret
  exact ⟨rfl, b1.trans (b2.mono b1.size)⟩
set_option maxHeartbeats 1600000 in
theorem c9_few (k s q : Int) (rs : List Rd1) (ws : List Wr1) (A1 : Option Addr) (c1 : Nat) (A2 : Option Addr) (c2 : Nat) (i j g : Int) (st : Nat) (y : Bool) (w : World) (B : Nat) (hB : B ≤ w.heap.size) (ok : TxOk w B rs ws A1 c1 A2 c2) :
    Calls Tryd.prog 27 #[.agg #[.int .i64 k, .int .i64 s, .int .i64 q, .slice A1 rs.length c1, .slice A2 ws.length c2, .int .i64 i, .int .i64 j, .int .i64 g, .int .u64 (st : Int), .bool y]] w fun e w' => (∃ r : Bool, e = .returned (.bool r)) ∧ Below w.heap.size w w' := by
  have g0 : Below w.heap.size w (w.alloc (.cells #[.int .i64 k, .int .i64 s, .int .i64 q, .slice A1 rs.length c1, .slice A2 ws.length c2, .int .i64 i, .int .i64 j, .int .i64 g, .int .u64 (st : Int), .bool y] 37)) := (Below.refl _ _).alloc (Nat.le_refl _) _
  have HF := Lib.hid (rfew_any k s q rs ws A1 c1 A2 c2 i j g st y _ B (Nat.le_trans hB g0.size) (ok.below g0 hB))
  clear ok
  generalize rs.length = n1 at *
  generalize ws.length = n2 at *
  go_enter Tryd.func27, Tryd.ntmps27
  go_wp2_with fail
  refine HF.out.mono ?_
  rintro e w1 ⟨⟨r, rfl⟩, b1⟩
  go_wp2_with fail
  go_ret
  exact ⟨⟨_, rfl⟩, g0.trans (b1.mono g0.size)⟩
end Go.Proofs.YtkfnepmiigkdfaaDoor
