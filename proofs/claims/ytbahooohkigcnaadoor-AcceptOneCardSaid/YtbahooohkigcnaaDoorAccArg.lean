/- Acceptors, commands and scripts that came in as arguments. No condition. -/
import Derived.Test.YtbahooohkigcnaaDoorAccN
import Derived.Test.YtbahooohkigcnaaDoorCmArg
namespace Go.Proofs.YtbahooohkigcnaaDoor
set_option maxRecDepth 20000
open Go.RowKit Go.ChangeShapes Go.WideShapes Go.ChangeAt T
set_option linter.unusedSimpArgs false
set_option linter.unusedVariables false
section
variable {W : World} {cs : List Value} {v : Value}
theorem Cel.ac (h : Cel W 39 cs) : ∃ a : Ac, cs = a.cells ∧ CmOk W W.heap.size a.c := by
  have hl := h.len Tryd.underlying39
  rw [show Tryd.prog.cellsOf 39 = 16 by kernel_rfl] at hl
  match cs, hl with
  | [v0, v1, v2, v3, v4, v5, v6, v7, v8, v9, v10, v11, v12, v13, v14, v15], _ =>
    have hp := h.field Tryd.underlying39 0 _ rfl
    rw [show Tryd.prog.cellsOf _ = 2 by kernel_rfl] at hp
    obtain ⟨pr, pn, e, _⟩ := Cel.bal hp
    simp at e
    obtain ⟨rfl, rfl⟩ := e
    obtain ⟨sl, hsl, _⟩ := (h.field1 Tryd.underlying39 1 2 3 _ rfl rfl rfl (by kernel_rfl) v2 rfl).i64 Tryd.underlying3
    obtain ⟨ha, hha⟩ := (h.field1 Tryd.underlying39 2 3 4 _ rfl rfl rfl (by kernel_rfl) v3 rfl).bool Tryd.underlying4
    have hv := h.field Tryd.underlying39 3 _ rfl
    rw [show Tryd.prog.cellsOf _ = 2 by kernel_rfl] at hv
    obtain ⟨vr, vn, e, _⟩ := Cel.bal hv
    simp at e
    obtain ⟨rfl, rfl⟩ := e
    have hc := h.field Tryd.underlying39 4 _ rfl
    rw [show Tryd.prog.cellsOf _ = 10 by kernel_rfl] at hc
    obtain ⟨x, e, r⟩ := Cel.cm hc
    cases hsl; cases hha
    refine ⟨⟨pr, pn, sl, ha, vr, vn, x⟩, ?_, r⟩
    have e' : [v6, v7, v8, v9, v10, v11, v12, v13, v14, v15] = x.cells := e
    show _ = [_, _, _, _, _, _] ++ x.cells
    rw [← e']; rfl
theorem Arg.ac (h : Arg W 39 v) : ∃ a : Ac, v = .agg a.cells.toArray ∧ CmOk W W.heap.size a.c := by
  obtain ⟨⟨cs⟩, rfl, hc⟩ := h.struct Tryd.underlying39
  obtain ⟨x, hx, r⟩ := Cel.ac hc
  exact ⟨x, by rw [show cs = x.cells from hx], r⟩
theorem Cel.aop (h : Cel W 53 cs) : ∃ o : AOp, cs = o.cells ∧ CmOk W W.heap.size o.x := by
  have hl := h.len Tryd.underlying53
  rw [show Tryd.prog.cellsOf 53 = 14 by kernel_rfl] at hl
  match cs, hl with
  | [v0, v1, v2, v3, v4, v5, v6, v7, v8, v9, v10, v11, v12, v13], _ =>
    obtain ⟨k, hk, _⟩ := (h.field1 Tryd.underlying53 0 0 3 _ rfl rfl rfl (by kernel_rfl) v0 rfl).i64 Tryd.underlying3
    have hp := h.field Tryd.underlying53 1 _ rfl
    rw [show Tryd.prog.cellsOf _ = 2 by kernel_rfl] at hp
    obtain ⟨br, bn, e, _⟩ := Cel.bal hp
    simp at e
    obtain ⟨rfl, rfl⟩ := e
    obtain ⟨sn, hsn, _⟩ := (h.field1 Tryd.underlying53 2 3 3 _ rfl rfl rfl (by kernel_rfl) v3 rfl).i64 Tryd.underlying3
    have hc := h.field Tryd.underlying53 3 _ rfl
    rw [show Tryd.prog.cellsOf _ = 10 by kernel_rfl] at hc
    obtain ⟨x, e, r⟩ := Cel.cm hc
    cases hk; cases hsn
    refine ⟨⟨k, br, bn, sn, x⟩, ?_, r⟩
    have e' : [v4, v5, v6, v7, v8, v9, v10, v11, v12, v13] = x.cells := e
    show _ = [_, _, _, _] ++ x.cells
    rw [← e']; rfl
theorem Arg.aop (h : Arg W 53 v) : ∃ o : AOp, v = .agg o.cells.toArray ∧ CmOk W W.heap.size o.x := by
  obtain ⟨⟨cs⟩, rfl, hc⟩ := h.struct Tryd.underlying53
  obtain ⟨x, hx, r⟩ := Cel.aop hc
  exact ⟨x, by rw [show cs = x.cells from hx], r⟩
instance : Inhabited Ac := ⟨Ac.zero⟩
instance : Inhabited AOp := ⟨⟨0, 0, 0, 0, Cm.zero⟩⟩
/-- a script -/
theorem Arg.aops (h : Arg W 51 v) : ∃ (A : Option Addr) (c : Nat) (ls : List AOp), v = .slice A ls.length c ∧ ls.length ≤ c ∧ c ≤ maxLen ∧ RowsAt W W.heap.size A 14 (ls.map AOp.cells) ∧ ∀ o ∈ ls, CmOk W W.heap.size o.x := by
  obtain ⟨A, n, c, rfl, hc⟩ := h.slice Tryd.underlying51
  obtain ⟨ls, r1, r2, r3, r4, r5, r6⟩ := hc.rows AOp.cells (fun o => CmOk W W.heap.size o.x) Tryd.underlying51 (sz := 14) (by kernel_rfl) (by omega) (fun cs hc => Cel.aop hc)
  subst r1
  exact ⟨A, c, ls, rfl, r2, r3, r5, r6⟩
/-- acceptors -/
theorem Arg.acs (h : Arg W 22 v) : ∃ (A : Option Addr) (c : Nat) (ls : List Ac), v = .slice A ls.length c ∧ ls.length ≤ c ∧ c ≤ maxLen ∧ RowsAt W W.heap.size A 16 (ls.map Ac.cells) ∧ ∀ a ∈ ls, CmOk W W.heap.size a.c := by
  obtain ⟨A, n, c, rfl, hc⟩ := h.slice Tryd.underlying22
  obtain ⟨ls, r1, r2, r3, r4, r5, r6⟩ := hc.rows Ac.cells (fun a => CmOk W W.heap.size a.c) Tryd.underlying22 (sz := 16) (by kernel_rfl) (by omega) (fun cs hc => Cel.ac hc)
  subst r1
  exact ⟨A, c, ls, rfl, r2, r3, r5, r6⟩
end
end Go.Proofs.YtbahooohkigcnaaDoor
