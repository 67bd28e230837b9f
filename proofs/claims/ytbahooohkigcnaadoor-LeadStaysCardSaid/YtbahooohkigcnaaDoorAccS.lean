/- Acceptors as one value each: their cells. No condition. (Printed by gen_accm.py.) -/
import Derived.Test.YtbahooohkigcnaaDoorCm
namespace Go.Proofs.YtbahooohkigcnaaDoor
set_option maxRecDepth 20000
open Go.RowKit T
set_option linter.unusedSimpArgs false
set_option linter.unusedVariables false

namespace T
/-- an acceptor -/
structure Ac where
  pr : Nat
  pn : Int
  sl : Int
  ha : Bool
  vr : Nat
  vn : Int
  c : Cm
def Ac.cells (a : Ac) : List Value := [.int .u32 (a.pr : Int), .int .i64 a.pn, .int .i64 a.sl, .bool a.ha, .int .u32 (a.vr : Int), .int .i64 a.vn, .int .i64 a.c.k, .int .i64 a.c.s, .int .i64 a.c.q, .slice a.c.A1 a.c.rs.length a.c.c1, .slice a.c.A2 a.c.ws.length a.c.c2, .int .i64 a.c.i, .int .i64 a.c.j, .int .i64 a.c.g, .int .u64 (a.c.st : Int), .bool a.c.y]
theorem Ac.cells_len (a : Ac) : a.cells.length = 16 := rfl
def Ac.zero : Ac := ⟨0, 0, 0, false, 0, 0, Cm.zero⟩
def Ac.new : Ac := ⟨0, 0, 1, false, 0, 0, Cm.zero⟩
end T
theorem Ac.part (a : Ac) : ∀ j v, a.c.cells[j]? = some v → a.cells[6 + j]? = some v := fun j v h => by
  have e : a.cells = [.int .u32 (a.pr : Int), .int .i64 a.pn, .int .i64 a.sl, .bool a.ha, .int .u32 (a.vr : Int), .int .i64 a.vn] ++ a.c.cells := rfl
  rw [e, List.getElem?_append_right (by simp)]
  simpa using h
theorem Ac.one (a : Ac) : a.cells.toArray.all (·.oneCell') = true := by simp [Ac.cells, Value.oneCell']
theorem sizeAc : (Tryd.prog.info? 39).map (·.size) = some 16 := by kernel_rfl
theorem sizeRAc : (Tryd.prog.info? 43).map (·.size) = some 16 := by kernel_rfl
end Go.Proofs.YtbahooohkigcnaaDoor
