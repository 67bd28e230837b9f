/- The walks of the reference's reader of layer 2. Conditions: the bytes lie below the reader's block, and are no more than 2^40. -/
import Derived.Test.YtjofjpmhokjhnaaDoorCodeReads
namespace Go.Proofs.YtjofjpmhokjhnaaDoor
set_option maxRecDepth 20000
open Go.RowKit
set_option linter.unusedSimpArgs false
set_option linter.unusedVariables false

theorem grownDrewN {a w : World} {row : Option Nat} (h : a.grownBy w row) (n : Nat) : a.grownBy (w.drewN n) row := ⟨h.os, h.tape, h.output, h.size, h.block⟩
theorem grownFromDrewN {a w : World} {row : Option Nat} {n : Nat} (h : (a.drewN n).grownBy w row) : a.grownBy w row := ⟨h.os, h.tape, h.output, h.size, h.block⟩

theorem refSet {w : World} {g : Nat} {a b c : Value} {t : TypeId} (h : w.heap[g]? = some (.cells #[a, b, c] t (0, 0))) (n : Nat) (u : Value) : ((w.drewN n).setCell ⟨g, 1, none⟩ u).heap[g]? = some (.cells #[a, u, c] t (0, 0)) := by
  have := setAt (w := w.drewN n) (show (w.drewN n).heap[g]? = _ from h) 1 u
  simpa using this
end Go.Proofs.YtjofjpmhokjhnaaDoor
