/- Commands as one value each: their cells. No condition. (Printed by gen_accm.py.) -/
import Derived.Test.YtjofjpmhokjhnaaDoorTxn
import Derived.Test.YtjofjpmhokjhnaaDoorRowLaws
namespace Go.Proofs.YtjofjpmhokjhnaaDoor
set_option maxRecDepth 20000
open Go.RowKit T
set_option linter.unusedSimpArgs false
set_option linter.unusedVariables false

namespace T
/-- a command -/
structure Cm where
  k : Int
  s : Int
  q : Int
  rs : List Rd1
  ws : List Wr1
  A1 : Option Addr
  c1 : Nat
  A2 : Option Addr
  c2 : Nat
  i : Int
  j : Int
  g : Int
  st : Nat
  y : Bool
def Cm.cells (x : Cm) : List Value := [.int .i64 x.k, .int .i64 x.s, .int .i64 x.q, .slice x.A1 x.rs.length x.c1, .slice x.A2 x.ws.length x.c2, .int .i64 x.i, .int .i64 x.j, .int .i64 x.g, .int .u64 (x.st : Int), .bool x.y]
theorem Cm.cells_len (x : Cm) : x.cells.length = 10 := rfl
def Cm.zero : Cm := ⟨0, 0, 0, [], [], none, 0, none, 0, 0, 0, 0, 0, false⟩
end T
/-- where a command's parts lie -/
def CmOk (w : World) (B : Nat) (x : Cm) : Prop := TxOk w B x.rs x.ws x.A1 x.c1 x.A2 x.c2
theorem CmOk.below {w w' : World} {B B' : Nat} {x : Cm} (h : CmOk w B x) (hb : Below B' w w') (hB : B ≤ B') : CmOk w' B x := TxOk.below h hb hB
theorem CmOk.alloc {w : World} {B : Nat} {x : Cm} (h : CmOk w B x) (hB : B ≤ w.heap.size) (o : Obj) : CmOk (w.alloc o) B x := TxOk.alloc h hB o
theorem CmOk.more {w : World} {B B' : Nat} {x : Cm} (h : CmOk w B x) (hB : B ≤ B') : CmOk w B' x := TxOk.more h hB
theorem CmOk.zero {w : World} {B : Nat} : CmOk w B Cm.zero := TxOk.zero
namespace T
def Cm.formed (x : Cm) : Bool := T.cformed x.k x.s x.q x.rs x.ws x.i x.j x.g x.st x.y
end T
def SameC (x y : Cm) : Bool := decide (x.k = y.k ∧ (x.i = y.i ∧ x.j = y.j) ∧ x.g = y.g ∧ x.st = y.st ∧ x.y = y.y ∧ x.s = y.s ∧ x.q = y.q ∧ x.rs = y.rs ∧ x.ws = y.ws)
theorem SameC.refl (x : Cm) : SameC x x = true := by simp [SameC]
theorem cformed_k {x : Cm} (h : x.formed = true) : x.k = 0 ∨ x.k = 1 ∨ x.k = 2 ∨ x.k = 3 := by
  unfold Cm.formed T.cformed at h
  by_cases h0 : x.k = 0
  · exact .inl h0
  · by_cases h1 : x.k = 1
    · exact .inr (.inl h1)
    · by_cases h2 : x.k = 2
      · exact .inr (.inr (.inl h2))
      · by_cases h3 : x.k = 3
        · exact .inr (.inr (.inr h3))
        · rw [if_neg h0, if_neg h1, if_neg h2, if_neg h3] at h; exact Bool.noConfusion h
theorem cformed_0 {x : Cm} (h : x.formed = true) (hk : x.k = 0) : SameC x Cm.zero = true := by
  unfold Cm.formed T.cformed at h
  rw [if_pos hk] at h
  have h := of_decide_eq_true h
  obtain ⟨h1, h2, h3, h4, h5, h6, h7, h8, h9⟩ := h
  exact decide_eq_true ⟨hk, ⟨h5, h6⟩, h7, h8, h9, h1, h2, h3, h4⟩
theorem cformed_1 {x : Cm} (h : x.formed = true) (hk : x.k = 1) : T.formed x.s x.q x.rs x.ws = true ∧ x.i = 0 ∧ x.j = 0 ∧ x.g = 0 ∧ x.st = 0 ∧ x.y = false := by
  unfold Cm.formed T.cformed at h
  rw [if_neg (by omega), if_pos hk, Bool.and_eq_true, decide_eq_true_eq] at h
  exact h
theorem cformed_2 {x : Cm} (h : x.formed = true) (hk : x.k = 2) : (x.s = 0 ∧ x.q = 0 ∧ x.rs = [] ∧ x.ws = [] ∧ x.y = false) ∧ T.idb x.i x.j = true ∧ 0 ≤ x.g ∧ x.g < 4 ∧ 1 ≤ x.st ∧ x.st < 9223372036854775808 := by
  unfold Cm.formed T.cformed at h
  rw [if_neg (by omega), if_neg (by omega), if_pos hk, Bool.and_eq_true, Bool.and_eq_true, decide_eq_true_eq, decide_eq_true_eq] at h
  exact ⟨h.1.1, h.1.2, h.2⟩
theorem cformed_3 {x : Cm} (h : x.formed = true) (hk : x.k = 3) : (x.s = 0 ∧ x.q = 0 ∧ x.rs = [] ∧ x.ws = [] ∧ x.st = 0) ∧ T.idb x.i x.j = true ∧ 0 ≤ x.g ∧ x.g < 4 := by
  unfold Cm.formed T.cformed at h
  rw [if_neg (by omega), if_neg (by omega), if_neg (by omega), if_pos hk, Bool.and_eq_true, Bool.and_eq_true, decide_eq_true_eq, decide_eq_true_eq] at h
  exact ⟨h.1.1, h.1.2, h.2⟩
theorem Cm.one (x : Cm) : x.cells.toArray.all (·.oneCell') = true := by simp [Cm.cells, Value.oneCell']
theorem sizeCm : (Tryd.prog.info? 33).map (·.size) = some 10 := by kernel_rfl
theorem sizeRCm : (Tryd.prog.info? 45).map (·.size) = some 10 := by kernel_rfl
end Go.Proofs.YtjofjpmhokjhnaaDoor
