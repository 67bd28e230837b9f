/- The walks of End, and of the reference's End: for a seat that reaches them. Condition: a reader is there. -/
import Derived.Test.YtkfnepmiigkdfaaDoorCodeReads
namespace Go.Proofs.YtkfnepmiigkdfaaDoor
set_option maxRecDepth 20000
open Go.RowKit
set_option linter.unusedSimpArgs false
set_option linter.unusedVariables false

set_option maxHeartbeats 800000 in
theorem end_any (B g : Nat) (s : C.St) (w : World) (h : RdrAt w B g s) :
    Calls Tryd.prog 38 #[.pointer (some ⟨g, 0, none⟩)] w fun e w' => e = .returned (.bool (C.end_ s)) ∧ w = w' := by
  obtain ⟨A, c, hb, _⟩ := id h
  have h0 := cellAt hb 0
  simp only [List.getElem?_toArray, List.getElem?_cons_zero, List.getElem?_cons_succ] at h0
  obtain ⟨l, f⟩ := s
  cases f
  all_goals
    clear hb
    go_enter Tryd.func38, Tryd.ntmps38
    go_wp2_with fail
    refine (ok_any B g _ w h).mono ?_
    rintro e w' ⟨rfl, rfl⟩
    go_wp2
    go_ret
    refine ⟨ret_bool ?_, rfl⟩
    unfold C.end_
    first | (cases l <;> simp; done) | (cases l <;> simp <;> omega)

end Go.Proofs.YtkfnepmiigkdfaaDoor
