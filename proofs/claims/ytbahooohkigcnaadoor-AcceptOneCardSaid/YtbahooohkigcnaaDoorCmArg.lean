/- Commands that came in as arguments. No condition. -/
import Derived.Test.YtbahooohkigcnaaDoorCm
import Derived.Test.YtbahooohkigcnaaDoorTxnArg
namespace Go.Proofs.YtbahooohkigcnaaDoor
set_option maxRecDepth 20000
open Go.RowKit Go.ChangeShapes Go.WideShapes Go.ChangeAt T
set_option linter.unusedSimpArgs false
set_option linter.unusedVariables false
section
variable {W : World} {cs : List Value} {v : Value}
theorem Cel.cm (h : Cel W 37 cs) : ∃ x : Cm, cs = x.cells ∧ CmOk W W.heap.size x := by
  obtain ⟨k, s, q, rs, ws, A1, c1, A2, c2, i, j, g, st, y, e, r, _⟩ := h.cmd Tryd.underlying37 (by kernel_rfl) (by rfl) (by rfl) (by rfl) (by rfl) (by rfl) (by rfl)
  exact ⟨⟨k, s, q, rs, ws, A1, c1, A2, c2, i, j, g, st, y⟩, e, r⟩
theorem Arg.cm (h : Arg W 37 v) : ∃ x : Cm, v = .agg x.cells.toArray ∧ CmOk W W.heap.size x := by
  obtain ⟨⟨cs⟩, rfl, hc⟩ := h.struct Tryd.underlying37
  obtain ⟨x, hx, r⟩ := Cel.cm hc
  exact ⟨x, by rw [show cs = x.cells from hx], r⟩
instance : Inhabited Cm := ⟨Cm.zero⟩
/-- commands -/
theorem Arg.cms (h : Arg W 119 v) : ∃ (A : Option Addr) (c : Nat) (ls : List Cm), v = .slice A ls.length c ∧ ls.length ≤ c ∧ c ≤ maxLen ∧ RowsAt W W.heap.size A 10 (ls.map Cm.cells) ∧ ∀ x ∈ ls, CmOk W W.heap.size x := by
  obtain ⟨A, n, c, rfl, hc⟩ := h.slice Tryd.underlying119
  obtain ⟨ls, r1, r2, r3, r4, r5, r6⟩ := hc.rows Cm.cells (fun x => CmOk W W.heap.size x) Tryd.underlying119 (sz := 10) (by kernel_rfl) (by omega) (fun cs hc => Cel.cm hc)
  subst r1
  exact ⟨A, c, ls, rfl, r2, r3, r5, r6⟩
end
end Go.Proofs.YtbahooohkigcnaaDoor
