/- A command that came in as an argument. No condition. -/
import Derived.Test.YtjofjpmhokjhnaaDoorTxn
namespace Go.Proofs.YtjofjpmhokjhnaaDoor
set_option maxRecDepth 20000
open Go.RowKit Go.ChangeShapes Go.WideShapes Go.ChangeAt T
set_option linter.unusedSimpArgs false
set_option linter.unusedVariables false
section
variable {W : World} {v : Value}
theorem Arg.cmd (h : Arg W 33 v) :
    ∃ (k s q : Int) (rs : List Rd1) (ws : List Wr1) (A1 : Option Addr) (c1 : Nat) (A2 : Option Addr) (c2 : Nat) (i j g : Int) (st : Nat) (y : Bool),
    v = .agg #[.int .i64 k, .int .i64 s, .int .i64 q, .slice A1 rs.length c1, .slice A2 ws.length c2, .int .i64 i, .int .i64 j, .int .i64 g, .int .u64 (st : Int), .bool y] ∧ TxOk W W.heap.size rs ws A1 c1 A2 c2 ∧ st < 18446744073709551616 ∧
      (-9223372036854775808 ≤ k ∧ k ≤ 9223372036854775807) ∧ (-9223372036854775808 ≤ g ∧ g ≤ 9223372036854775807) := by
  obtain ⟨cs, rfl, hc⟩ := h.struct Tryd.underlying33
  obtain ⟨k, s, q, rs, ws, A1, c1, A2, c2, i, j, g, st, y, e, r⟩ := hc.cmd Tryd.underlying33 (by kernel_rfl) (by rfl) (by rfl) (by rfl) (by rfl) (by rfl) (by rfl)
  refine ⟨k, s, q, rs, ws, A1, c1, A2, c2, i, j, g, st, y, ?_, r⟩
  congr 1
  apply Array.ext'
  exact e
end
end Go.Proofs.YtjofjpmhokjhnaaDoor
