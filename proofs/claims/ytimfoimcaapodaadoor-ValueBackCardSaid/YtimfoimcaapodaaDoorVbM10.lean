import Derived.Test.YtimfoimcaapodaaDoorVbM9
import Derived.Laws.Externs
import Derived.Laws.Bits64
import Derived.Laws.Bits64b
import Derived.Lib.ValidLaws
import Derived.Lib.TrimUEq
import Derived.Laws.RangeString
import Derived.Laws.RangeAny
set_option maxHeartbeats 800000
set_option maxRecDepth 20001
set_option linter.unusedSimpArgs false
set_option linter.unusedVariables false
namespace Go.Proofs.YtimfoimcaapodaaDoor
set_option maxRecDepth 20000
section
open Go.RowKit
namespace V
def nan (b : Nat) : Bool := FloatKind.f64.format.order b b != some Ordering.eq
def ncanon (b : Nat) : Nat := bif nan b then 9221120237041090560 else b
end V
theorem run_frombits (b : Nat) (w : World) : (callFunc 42 #[.int .u64 b]).run Tryd.prog w = .ok (.value (.float .f64 b)) w := by
 rw [run_callFunc_extern Tryd.func42 (by kernel_rfl) (by kernel_rfl) (by kernel_rfl) (e := Go.Extern.MathFloatBits.float64frombits) (by kernel_rfl)];rfl
theorem ncanon_any (b : Nat) (w : World) :
 Calls Tryd.prog 21 #[.int .u64 b] w fun e w' => e = .returned (.int .u64 (V.ncanon b)) ∧ w' = w := by
 have hfb := run_frombits b;obtain ⟨p, hp⟩ : ∃ p, p = V.ncanon b := ⟨_, rfl⟩;rw [← hp];have HP := Lib.hid hp;clear hp
 go_enter Tryd.func21, Tryd.ntmps21
 go_wp2
 all_goals
  rename_i h
  go_ret
  refine ⟨ret_int ?_, rfl⟩;rw [HP.out];unfold V.ncanon V.nan;rw [h];rfl
end
section
open Go.RowKit
theorem end_any (B g : Nat) (s : C.St) (w : World) (h : RdrAt w B g s) :
 Calls Tryd.prog 14 #[.pointer (some ⟨g, 0, none⟩)] w fun e w' => e = .returned (.bool (C.end_ s)) ∧ w = w' := by
 obtain ⟨A, c, hb, _⟩ := id h;have h0 := cellAt hb 0;simp only [zQ] at h0;obtain ⟨l, f⟩ := s;cases f
 all_goals
  clear hb
  go_enter Tryd.func14, Tryd.ntmps14
  go_wp2_with fail
  refine (ok_any B g _ w h).mono ?_;rintro e w' ⟨rfl, rfl⟩
  go_wp2
  go_ret
  refine ⟨ret_bool ?_, rfl⟩;unfold C.end_
  first | (cases l <;> simp; done) | (cases l <;> simp <;> omega)
end
end Go.Proofs.YtimfoimcaapodaaDoor
