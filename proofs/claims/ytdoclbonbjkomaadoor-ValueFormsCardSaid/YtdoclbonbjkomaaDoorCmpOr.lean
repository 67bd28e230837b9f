/- The walk of cmp.Or[int] over three numbers. Condition: the three cells lie side by side. -/
import Derived.Test.YtdoclbonbjkomaaDoorNum
namespace Go.Proofs.YtdoclbonbjkomaaDoor
open Go.RowKit
set_option linter.unusedSimpArgs false
set_option linter.unusedVariables false

namespace V
def or3 (x y z : Int) : Int := if x = 0 then (if y = 0 then z else y) else x
end V
set_option maxHeartbeats 1600000 in
theorem or_any (g : Nat) (x y z : Int) (w : World) (h0 : w.cell? ⟨g, 0, none⟩ = some (.int .i64 x)) (h1 : w.cell? ⟨g, 1, none⟩ = some (.int .i64 y)) (h2 : w.cell? ⟨g, 2, none⟩ = some (.int .i64 z)) :
    Calls Tryd.prog 28 #[.slice (some ⟨g, 0, none⟩) 3 3] w fun e w' => e = .returned (.int .i64 (V.or3 x y z)) ∧ w' = w := by
  obtain ⟨p, hp⟩ : ∃ p, p = V.or3 x y z := ⟨_, rfl⟩
  rw [← hp]
  have HP := Lib.hid hp
  clear hp
  go_enter Tryd.func28, Tryd.ntmps28
  go_wp2_with fail
  go_loopw [8] (fun i wr => ∃ k : Nat, k ≤ 3 ∧ i = .int .i64 (k : Int) ∧ (0 < k → x = 0) ∧ (1 < k → y = 0) ∧ (2 < k → z = 0) ∧ wr = w) (fun i _ => 3 - (intOf i).toNat)
  case atStart => exact ⟨0, by omega, rfl, by omega, by omega, by omega, rfl⟩
  case round =>
    obtain ⟨k, hk, rfl, z0, z1, z2, rfl⟩ := hrel
    rcases (show k = 0 ∨ k = 1 ∨ k = 2 ∨ k = 3 by omega) with rfl | rfl | rfl | rfl
    · by_cases hx : x = 0
      · go_wp2_with fail
        go_roundw
        case rel => exact ⟨1, by omega, by go_num, by omega, by omega, by omega, by first | rfl | trivial⟩
        case measure => simp [intOf]
      · go_wp2_with fail
        go_ret
        refine ⟨ret_int ?_, by first | rfl | trivial⟩
        rw [HP.out]
        simp [V.or3, hx]
    · have hx := z0 (by omega)
      by_cases hy : y = 0
      · go_wp2_with fail
        go_roundw
        case rel => exact ⟨2, by omega, by go_num, by omega, by omega, by omega, by first | rfl | trivial⟩
        case measure => simp [intOf]
      · go_wp2_with fail
        go_ret
        refine ⟨ret_int ?_, by first | rfl | trivial⟩
        rw [HP.out]
        simp [V.or3, hx, hy]
    · have hx := z0 (by omega)
      have hy := z1 (by omega)
      by_cases hz : z = 0
      · go_wp2_with fail
        go_roundw
        case rel => exact ⟨3, by omega, by go_num, by omega, by omega, by omega, by first | rfl | trivial⟩
        case measure => simp [intOf]
      · go_wp2_with fail
        go_ret
        refine ⟨ret_int ?_, by first | rfl | trivial⟩
        rw [HP.out]
        simp [V.or3, hx, hy]
    · have hx := z0 (by omega)
      have hy := z1 (by omega)
      have hz := z2 (by omega)
      go_wp2_with fail
      go_ret
      refine ⟨ret_int ?_, by first | rfl | trivial⟩
      rw [HP.out]
      simp [V.or3, hx, hy, hz]
end Go.Proofs.YtdoclbonbjkomaaDoor
