/- A value that came in as an argument. No condition. -/
import Derived.Test.YtjofjpmhokjhnaaDoorArgs
import Derived.Test.YtjofjpmhokjhnaaDoorForm
namespace Go.Proofs.YtjofjpmhokjhnaaDoor
set_option maxRecDepth 20000
open Go.RowKit Go.ChangeShapes Go.WideShapes Go.ChangeAt
theorem Cel.val {W : World} {cs : List Value} (h : Cel W 35 cs) : ∃ (k : Int) (b : Nat) (t : ByteArray), cs = [.int .i64 k, .int .u64 (b : Int), .string t] ∧ -9223372036854775808 ≤ k ∧ k ≤ 9223372036854775807 ∧ b < 18446744073709551616 ∧ t.size ≤ 9223372036854775807 := by
  have hl := h.len Tryd.underlying35
  rw [show Tryd.prog.cellsOf 35 = 3 by kernel_rfl] at hl
  match cs, hl with
  | [x, y, z], _ =>
    obtain ⟨k, hk, k1, k2⟩ := (h.field1 Tryd.underlying35 0 0 3 _ rfl rfl rfl (by kernel_rfl) x rfl).i64 Tryd.underlying3
    obtain ⟨b, hb, b1⟩ := (h.field1 Tryd.underlying35 1 1 31 _ rfl rfl rfl (by kernel_rfl) y rfl).u64 Tryd.underlying31
    obtain ⟨t, ht, t1⟩ := (h.field1 Tryd.underlying35 2 2 9 _ rfl rfl rfl (by kernel_rfl) z rfl).string Tryd.underlying9
    cases hk; cases hb; cases ht
    exact ⟨k, b, t, rfl, k1, k2, b1, t1⟩
theorem Arg.val {W : World} {v : Value} (h : Arg W 35 v) : ∃ (k : Int) (b : Nat) (t : ByteArray), v = V.val k b t ∧ -9223372036854775808 ≤ k ∧ k ≤ 9223372036854775807 ∧ b < 18446744073709551616 ∧ t.size ≤ 9223372036854775807 := by
  obtain ⟨cs, rfl, hc⟩ := h.struct Tryd.underlying35
  obtain ⟨k, b, t, e, r⟩ := hc.val
  refine ⟨k, b, t, ?_, r⟩
  unfold V.val
  congr 1
  apply Array.ext'
  exact e
end Go.Proofs.YtjofjpmhokjhnaaDoor
