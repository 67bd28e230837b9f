/- Library functions that messages ask: bytes.Equal, strings.Contains at one byte (turned from the shelf's templates). Conditions: what lies, lies below. (Printed by gen_msg.py.) -/
import Derived.Test.YtjofjpmhokjhnaaDoorMsg
import Derived.Lib.Strings
import Derived.Lib.Slices
import Derived.Lib.Walk
import Derived.Lib.Bytealg
import Derived.Lib.Bytes
namespace Go.Proofs.YtjofjpmhokjhnaaDoor
set_option maxRecDepth 20000
open Go.RowKit T
set_option linter.unusedSimpArgs false
set_option linter.unusedVariables false

set_option maxHeartbeats 1000000 in
theorem bequal_any (A : Option Addr) (c : Nat) (l : List UInt8) (A' : Option Addr) (c' : Nat) (l' : List UInt8) (B : Nat) (w : World) (h : Rd w B A (bc l)) (h' : Rd w B A' (bc l')) :
    Calls Tryd.prog 58 #[.slice A l.length c, .slice A' l'.length c'] w fun e w' => e = .returned (.bool (decide (l = l'))) ∧ w = w' := by
  have e1 := run_string_rd (P := Tryd.prog) w 37 5 9 Tryd.underlying37 Tryd.underlying5 Tryd.underlying9 B A c l h
  have e2 := run_string_rd (P := Tryd.prog) w 37 5 9 Tryd.underlying37 Tryd.underlying5 Tryd.underlying9 B A' c' l' h'
  have e3 : (l == l') = decide (l = l') := by
    by_cases q : l = l'
    · subst q; simp
    · rw [decide_eq_false q]; simpa using q
  clear h h'
  generalize decide (l = l') = d at e3 ⊢
  go_enter Tryd.func58, Tryd.ntmps58
  go_wp2
  go_ret
  refine ⟨?_, rfl⟩
  rw [← e3]
  rfl
set_option maxHeartbeats 1000000 in
theorem sIndexByte (s : ByteArray) (c : Int) (w : World) :
    Calls Tryd.prog 134 #[.string s, .int .u8 c] w fun e w' => e = .returned (.int .i64 (Lib.indexByte s.data.toList c.toNat.toUInt8)) ∧ w' = w := by
  go_enter Tryd.func134, Tryd.ntmps134
  go_wp2
  rw [run_callFunc_extern Tryd.func143 (by kernel_rfl) (by kernel_rfl) (by kernel_rfl) (e := Extern.BytealgIndexByte.indexByte) (by kernel_rfl), Lib.run_indexByteString]
  simp only [Result.andThen]
  rw [Oper.upon_value]
  go_wp2
  go_ret
  exact ⟨rfl, rfl⟩
set_option maxHeartbeats 2000000 in
theorem sliteIndex (s : ByteArray) (c : UInt8) (w : World) :
    Calls Tryd.prog 120 #[.string s, .string ⟨#[c]⟩] w fun e w' => e = .returned (.int .i64 (Lib.indexByte s.data.toList c)) ∧ w' = w := by
  go_enter Tryd.func120, Tryd.ntmps120
  go_wp2_with (go_at_call 134; refine (sIndexByte _ _ _).mono ?_; rintro e w' ⟨rfl, rfl⟩)
  · have h : ([c] == s.toList) = true := by assumption
    go_ret
    refine ⟨?_, rfl⟩
    have e : s.data.toList = [c] := by rw [← Lib.toList_data]; exact (beq_iff_eq.1 h).symm
    rw [e]
    simp [Lib.indexByte]
  · go_ret
    exact ⟨rfl, rfl⟩
set_option maxHeartbeats 1000000 in
theorem sIndex (s : ByteArray) (c : UInt8) (w : World) :
    Calls Tryd.prog 98 #[.string s, .string ⟨#[c]⟩] w fun e w' => e = .returned (.int .i64 (Lib.indexByte s.data.toList c)) ∧ w' = w := by
  go_enter Tryd.func98, Tryd.ntmps98
  go_wp2_with (go_at_call 120; refine (sliteIndex _ _ _).mono ?_; rintro e w' ⟨rfl, rfl⟩)
  go_ret
  exact ⟨rfl, rfl⟩
set_option maxHeartbeats 1000000 in
theorem sContains (s : ByteArray) (c : UInt8) (w : World) :
    Calls Tryd.prog 43 #[.string s, .string ⟨#[c]⟩] w fun e w' => e = .returned (.bool (decide (0 ≤ Lib.indexByte s.data.toList c))) ∧ w' = w := by
  go_enter Tryd.func43, Tryd.ntmps43
  go_wp2_with (go_at_call 98; refine (sIndex _ _ _).mono ?_; rintro e w' ⟨rfl, rfl⟩)
  go_ret
  exact ⟨rfl, rfl⟩
theorem indexByte_mem (l : List UInt8) (c : UInt8) : decide (0 ≤ Lib.indexByte l c) = decide (c ∈ l) := by
  induction l with
  | nil => simp [Lib.indexByte]
  | cons b t ih =>
    have hg := Lib.indexByte_ge t c
    unfold Lib.indexByte
    by_cases h : b = c
    · subst h; simp
    · have h2 : (b == c) = false := by simpa using h
      rw [h2]
      have h3 : (c ∈ b :: t) ↔ c ∈ t := by simp [List.mem_cons, Ne.symm h]
      rw [decide_eq_decide] at ih ⊢
      rw [h3, ← ih]
      by_cases h4 : Lib.indexByte t c = -1
      · simp [h4]
      · have h5 : (Lib.indexByte t c == -1) = false := by simpa using h4
        simp only [Bool.false_eq_true, if_false, h5]
        omega
/-- are two transactions alike -/
def SameT (x y : Tn) : Bool := decide (x.s = y.s ∧ x.q = y.q ∧ x.rs = y.rs ∧ x.ws = y.ws)
/-- are two messages alike -/
def T.Ms.same (a b : Ms) : Bool := (a.kd == b.kd) && (decide (a.br = b.br ∧ a.bn = b.bn)) && (a.sl == b.sl) && (a.ha == b.ha) && (decide (a.vr = b.vr ∧ a.vn = b.vn)) && (decide (a.ii = b.ii ∧ a.ij = b.ij)) && (a.g == b.g) && ((a.st : Int) == (b.st : Int)) && (a.ye == b.ye) && (a.nu == b.nu) && (a.ky.toList == b.ky.toList) && ((a.ve : Int) == (b.ve : Int)) && (decide (a.vk = b.vk ∧ a.vb = b.vb ∧ a.vt.toList = b.vt.toList)) && (a.er == b.er) && (SameC a.c b.c) && (SameT a.t b.t) && (decide (a.dt = b.dt))
end Go.Proofs.YtjofjpmhokjhnaaDoor
