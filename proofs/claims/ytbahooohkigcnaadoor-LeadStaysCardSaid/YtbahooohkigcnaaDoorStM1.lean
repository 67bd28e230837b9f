/- Leads, Vote and Done. Conditions: what lies, lies below; the tables lie. (Printed by gen_lead.py.) -/
import Derived.Test.YtbahooohkigcnaaDoorTxn
import Derived.Test.YtbahooohkigcnaaDoorCm
import Derived.Test.YtbahooohkigcnaaDoorAccA
import Derived.Test.YtbahooohkigcnaaDoorCodeReads
import Derived.Deep.MidRow
import Derived.Test.YtbahooohkigcnaaDoorTxnG
import Derived.Test.YtbahooohkigcnaaDoorAccS
import Derived.Test.YtbahooohkigcnaaDoorAccG
import Derived.Test.YtbahooohkigcnaaDoorQuorN
import Derived.Test.YtbahooohkigcnaaDoorBalN
import Derived.Deep.QuietTactic
import Derived.BigQuiet
import Derived.StillTailTactics
import Derived.Great.BuildSlice
namespace Go.Proofs.YtbahooohkigcnaaDoor
set_option maxRecDepth 20000
open Go.RowKit Go.ChangeShapes Go.WideShapes Go.ChangeAt T
set_option linter.unusedSimpArgs false
set_option linter.unusedVariables false
section
variable {W : World} {v : Value}
theorem Arg.cmd (h : Arg W 37 v) :
    ∃ (k s q : Int) (rs : List Rd1) (ws : List Wr1) (A1 : Option Addr) (c1 : Nat) (A2 : Option Addr) (c2 : Nat) (i j g : Int) (st : Nat) (y : Bool),
    v = .agg #[.int .i64 k, .int .i64 s, .int .i64 q, .slice A1 rs.length c1, .slice A2 ws.length c2, .int .i64 i, .int .i64 j, .int .i64 g, .int .u64 (st : Int), .bool y] ∧ TxOk W W.heap.size rs ws A1 c1 A2 c2 ∧ st < 18446744073709551616 ∧
      (-9223372036854775808 ≤ k ∧ k ≤ 9223372036854775807) ∧ (-9223372036854775808 ≤ g ∧ g ≤ 9223372036854775807) := by
  obtain ⟨cs, rfl, hc⟩ := h.struct Tryd.underlying37
  obtain ⟨k, s, q, rs, ws, A1, c1, A2, c2, i, j, g, st, y, e, r⟩ := hc.cmd Tryd.underlying37 (by kernel_rfl) (by rfl) (by rfl) (by rfl) (by rfl) (by rfl) (by rfl)
  refine ⟨k, s, q, rs, ws, A1, c1, A2, c2, i, j, g, st, y, ?_, r⟩
  congr 1
  apply Array.ext'
  exact e
end
end Go.Proofs.YtbahooohkigcnaaDoor

namespace Go.Proofs.YtbahooohkigcnaaDoor
set_option maxRecDepth 20001
open Go.RowKit Go.ChangeShapes Go.WideShapes Go.ChangeAt T
set_option linter.unusedSimpArgs false
set_option linter.unusedVariables false
section
variable {W : World} {cs : List Value} {v : Value}
theorem Cel.cm (h : Cel W 37 cs) : ∃ x : Cm, cs = x.cells ∧ CmOk W W.heap.size x := by
  obtain ⟨k, s, q, rs, ws, A1, c1, A2, c2, i, j, g, st, y, e, r, _⟩ := h.cmd Tryd.underlying37 (by kernel_rfl) (by rfl) (by rfl) (by rfl) (by rfl) (by rfl) (by rfl)
  exact ⟨⟨k, s, q, rs, ws, A1, c1, A2, c2, i, j, g, st, y⟩, e, r⟩
theorem Arg.cm (h : Arg W 37 v) : ∃ x : Cm, v = .agg x.cells.toArray ∧ CmOk W W.heap.size x := by
  obtain ⟨⟨cs⟩, rfl, hc⟩ := h.struct Tryd.underlying37
  obtain ⟨x, hx, r⟩ := Cel.cm hc
  exact ⟨x, by rw [show cs = x.cells from hx], r⟩
instance : Inhabited Cm := ⟨Cm.zero⟩
end
end Go.Proofs.YtbahooohkigcnaaDoor

namespace Go.Proofs.YtbahooohkigcnaaDoor
set_option maxRecDepth 20001
open Go.RowKit T
set_option linter.unusedSimpArgs false
set_option linter.unusedVariables false

/-- may an acceptor promise a ballot? -/
def T.may (pr : Nat) (pn sl : Int) (ha : Bool) (vr : Nat) (vn : Int) (k s q : Int) (rs : List Rd1) (ws : List Wr1) (i j g : Int) (st : Nat) (y : Bool) (br : Nat) (bn : Int) : Bool :=
  T.aformed pr pn sl ha vr vn k s q rs ws i j g st y && B.formed bn && !B.less br bn pr pn
end Go.Proofs.YtbahooohkigcnaaDoor

namespace Go.Proofs.YtbahooohkigcnaaDoor
set_option maxRecDepth 20001
open Go.RowKit T
set_option linter.unusedSimpArgs false
set_option linter.unusedVariables false

/-- does an acceptor learn in a slot? -/
def T.learns (pr : Nat) (pn sl : Int) (ha : Bool) (vr : Nat) (vn : Int) (k s q : Int) (rs : List Rd1) (ws : List Wr1) (i j g : Int) (st : Nat) (y : Bool) (sn : Int) : Bool :=
  T.aformed pr pn sl ha vr vn k s q rs ws i j g st y && decide (sn = sl) && decide (sn ≠ 1000000)
theorem T.aformed_slot {pr : Nat} {pn sl : Int} {ha : Bool} {vr : Nat} {vn : Int} {k s q : Int} {rs : List Rd1} {ws : List Wr1} {i j g : Int} {st : Nat} {y : Bool} (h : T.aformed pr pn sl ha vr vn k s q rs ws i j g st y = true) : 1 ≤ sl ∧ sl ≤ 1000000 := by
  unfold T.aformed at h
  rw [Bool.and_eq_true, Bool.and_eq_true] at h
  exact of_decide_eq_true h.1.2
end Go.Proofs.YtbahooohkigcnaaDoor

namespace Go.Proofs.YtbahooohkigcnaaDoor
set_option maxRecDepth 20001
open Go.RowKit T
set_option linter.unusedSimpArgs false
set_option linter.unusedVariables false

def T.asame (pr : Nat) (pn sl : Int) (ha : Bool) (vr : Nat) (vn : Int) (pr' : Nat) (pn' sl' : Int) (ha' : Bool) (vr' : Nat) (vn' : Int) (c : Bool) : Bool :=
  decide (pr = pr' ∧ pn = pn') && decide (sl = sl') && decide (ha = ha') && decide (vr = vr' ∧ vn = vn') && c
end Go.Proofs.YtbahooohkigcnaaDoor

namespace Go.Proofs.YtbahooohkigcnaaDoor
set_option maxRecDepth 20001
open Go.RowKit T
set_option linter.unusedSimpArgs false
set_option linter.unusedVariables false

namespace T
def Ac.formed (a : Ac) : Bool := T.aformed a.pr a.pn a.sl a.ha a.vr a.vn a.c.k a.c.s a.c.q a.c.rs a.c.ws a.c.i a.c.j a.c.g a.c.st a.c.y
def Ac.may (a : Ac) (br : Nat) (bn : Int) : Bool := T.may a.pr a.pn a.sl a.ha a.vr a.vn a.c.k a.c.s a.c.q a.c.rs a.c.ws a.c.i a.c.j a.c.g a.c.st a.c.y br bn
def Ac.learns (a : Ac) (sn : Int) : Bool := T.learns a.pr a.pn a.sl a.ha a.vr a.vn a.c.k a.c.s a.c.q a.c.rs a.c.ws a.c.i a.c.j a.c.g a.c.st a.c.y sn
/-- a promise -/
def Ac.prep (a : Ac) (br : Nat) (bn : Int) : Ac := bif a.may br bn then ⟨br, bn, a.sl, a.ha, a.vr, a.vn, a.c⟩ else a
/-- a vote -/
def Ac.how (a : Ac) (br : Nat) (bn sn : Int) (x : Cm) : Int := bif a.may br bn && x.formed then (bif decide (sn < a.sl) then 1 else (bif decide (a.sl < sn) then 2 else 3)) else 0
def Ac.vote (a : Ac) (br : Nat) (bn sn : Int) (x : Cm) : Ac := bif decide (a.how br bn sn x = 3) then ⟨br, bn, sn, true, br, bn, x⟩ else a
def Ac.learn (a : Ac) (sn : Int) : Ac := bif a.learns sn then ⟨a.pr, a.pn, sn + 1, false, 0, 0, Cm.zero⟩ else a
end T
def SameA (a b : Ac) : Bool := T.asame a.pr a.pn a.sl a.ha a.vr a.vn b.pr b.pn b.sl b.ha b.vr b.vn (SameC a.c b.c)
theorem SameA.refl (a : Ac) : SameA a a = true := by unfold SameA; rw [SameC.refl]; simp [T.asame]
theorem c_formed (a : Ac) (w : World) (B0 : Nat) (hB : B0 ≤ w.heap.size) (ok : CmOk w B0 a.c) (hT : Tabs w) :
    Calls Tryd.prog 20 #[.agg a.cells.toArray] w fun e w' => e = .returned (.bool a.formed) ∧ Below w.heap.size w w' := aformed_any a.pr a.pn a.sl a.ha a.vr a.vn a.c.k a.c.s a.c.q a.c.rs a.c.ws a.c.A1 a.c.c1 a.c.A2 a.c.c2 a.c.i a.c.j a.c.g a.c.st a.c.y w B0 hB ok hT
theorem cr_formed (a : Ac) (w : World) (B0 : Nat) (hB : B0 ≤ w.heap.size) (ok : CmOk w B0 a.c) :
    Calls Tryd.prog 21 #[.agg a.cells.toArray] w fun e w' => e = .returned (.bool a.formed) ∧ Below w.heap.size w w' := raformed_any a.pr a.pn a.sl a.ha a.vr a.vn a.c.k a.c.s a.c.q a.c.rs a.c.ws a.c.A1 a.c.c1 a.c.A2 a.c.c2 a.c.i a.c.j a.c.g a.c.st a.c.y w B0 hB ok
theorem c_cformed (x : Cm) (w : World) (B0 : Nat) (hB : B0 ≤ w.heap.size) (ok : CmOk w B0 x) (hT : Tabs w) :
    Calls Tryd.prog 28 #[.agg x.cells.toArray] w fun e w' => e = .returned (.bool x.formed) ∧ Below w.heap.size w w' := cformed_any x.k x.s x.q x.rs x.ws x.A1 x.c1 x.A2 x.c2 x.i x.j x.g x.st x.y w B0 hB ok hT
theorem cr_cformed (x : Cm) (w : World) (B0 : Nat) (hB : B0 ≤ w.heap.size) (ok : CmOk w B0 x) :
    Calls Tryd.prog 29 #[.agg x.cells.toArray] w fun e w' => e = .returned (.bool x.formed) ∧ Below w.heap.size w w' := rcformed_any x.k x.s x.q x.rs x.ws x.A1 x.c1 x.A2 x.c2 x.i x.j x.g x.st x.y w B0 hB ok
theorem cr_csame (x y : Cm) (w : World) (B0 : Nat) (hB : B0 ≤ w.heap.size) (ok : CmOk w B0 x) (ok' : CmOk w B0 y) :
    Calls Tryd.prog 17 #[.agg x.cells.toArray, .agg y.cells.toArray] w fun e w' => e = .returned (.bool (SameC x y)) ∧ Below w.heap.size w w' := rcsame_any x.k x.s x.q x.rs x.ws x.A1 x.c1 x.A2 x.c2 x.i x.j x.g x.st x.y y.k y.s y.q y.rs y.ws y.A1 y.c1 y.A2 y.c2 y.i y.j y.g y.st y.y w B0 hB ok ok'
/-! ### the plain laws -/
theorem B.less_self (r : Nat) (n : Int) : B.less r n r n = false := by simp [B.less]
theorem Ac.may_iff (a : Ac) (br : Nat) (bn : Int) : a.may br bn = true ↔ a.formed = true ∧ B.formed bn = true ∧ B.less br bn a.pr a.pn = false := by
  show (T.aformed _ _ _ _ _ _ _ _ _ _ _ _ _ _ _ _ && B.formed bn && !B.less br bn a.pr a.pn) = true ↔ _
  rw [Bool.and_eq_true, Bool.and_eq_true, Bool.not_eq_true', and_assoc]
  rfl
theorem Ac.formed_has {a : Ac} (h : a.ha = true) : a.formed = true ↔ B.formed a.pn = true ∧ (1 ≤ a.sl ∧ a.sl ≤ 1000000) ∧ B.formed a.vn = true ∧ B.less a.pr a.pn a.vr a.vn = false ∧ a.c.formed = true := by
  unfold Ac.formed T.aformed
  rw [h, cond_true]
  simp only [Bool.and_eq_true, decide_eq_true_eq, Bool.not_eq_true', and_assoc]
  rfl
theorem Ac.formed_not {a : Ac} (h : a.ha = false) : a.formed = true ↔ B.formed a.pn = true ∧ (1 ≤ a.sl ∧ a.sl ≤ 1000000) ∧ (a.vr = 0 ∧ a.vn = 0) ∧ SameC a.c Cm.zero = true := by
  unfold Ac.formed T.aformed
  rw [h, cond_false]
  simp only [Bool.and_eq_true, decide_eq_true_eq, SameC, and_assoc]
  rfl
theorem Ac.new_formed : Ac.new.formed = true := by decide
theorem Ac.prep_formed {a : Ac} (h : a.formed = true) (br : Nat) (bn : Int) : (a.prep br bn).formed = true := by
  unfold Ac.prep
  cases hm : a.may br bn with
  | false => exact h
  | true =>
    obtain ⟨_, h2, h3⟩ := (Ac.may_iff a br bn).1 hm
    cases hh : a.ha with
    | true =>
      obtain ⟨g1, g2, g3, g4, g5⟩ := (Ac.formed_has hh).1 h
      refine (Ac.formed_has (by simp [hh])).2 ⟨h2, g2, g3, ?_, g5⟩
      show B.less br bn a.vr a.vn = false
      simp [B.less] at h3 g4 ⊢
      omega
    | false =>
      obtain ⟨g1, g2, g3, g4⟩ := (Ac.formed_not hh).1 h
      exact (Ac.formed_not (by simp [hh])).2 ⟨h2, g2, g3, g4⟩
theorem Ac.how_three {a : Ac} {br : Nat} {bn sn : Int} {x : Cm} (h : a.how br bn sn x = 3) : a.may br bn = true ∧ x.formed = true ∧ sn = a.sl := by
  unfold Ac.how at h
  cases hm : a.may br bn <;> cases hx : x.formed <;> rw [hm, hx] at h
  · exact absurd h (by simp)
  · exact absurd h (by simp)
  · exact absurd h (by simp)
  · by_cases h1 : sn < a.sl
    · rw [decide_eq_true h1] at h; exact absurd h (by simp)
    · by_cases h2 : a.sl < sn
      · rw [decide_eq_false h1, decide_eq_true h2] at h; exact absurd h (by simp)
      · exact ⟨rfl, rfl, by omega⟩
theorem Ac.vote_formed {a : Ac} (h : a.formed = true) (br : Nat) (bn sn : Int) (x : Cm) : (a.vote br bn sn x).formed = true := by
  unfold Ac.vote
  by_cases hh : a.how br bn sn x = 3
  · obtain ⟨h1, h2, h3⟩ := Ac.how_three hh
    obtain ⟨g1, g2, g3⟩ := (Ac.may_iff a br bn).1 h1
    rw [decide_eq_true hh, cond_true]
    refine (Ac.formed_has rfl).2 ⟨g2, ?_, g2, B.less_self _ _, h2⟩
    show 1 ≤ sn ∧ sn ≤ 1000000
    rw [h3]
    exact T.aformed_slot h
  · rw [decide_eq_false hh]; exact h
theorem Ac.learns_iff (a : Ac) (sn : Int) : a.learns sn = true ↔ a.formed = true ∧ sn = a.sl ∧ sn ≠ 1000000 := by
  unfold Ac.learns T.learns
  rw [Bool.and_eq_true, Bool.and_eq_true, decide_eq_true_eq, decide_eq_true_eq, and_assoc]
  rfl
theorem Ac.formed_promised {a : Ac} (h : a.formed = true) : B.formed a.pn = true ∧ 1 ≤ a.sl ∧ a.sl ≤ 1000000 := by
  cases hh : a.ha with
  | true => exact ⟨((Ac.formed_has hh).1 h).1, ((Ac.formed_has hh).1 h).2.1⟩
  | false => exact ⟨((Ac.formed_not hh).1 h).1, ((Ac.formed_not hh).1 h).2.1⟩
theorem Ac.learn_formed {a : Ac} (h : a.formed = true) (sn : Int) : (a.learn sn).formed = true := by
  unfold Ac.learn
  cases hm : a.learns sn with
  | false => exact h
  | true =>
    obtain ⟨g1, g2, g3⟩ := (Ac.learns_iff a sn).1 hm
    obtain ⟨f1, f2, f3⟩ := Ac.formed_promised h
    refine (Ac.formed_not rfl).2 ⟨f1, ?_, ⟨rfl, rfl⟩, SameC.refl _⟩
    show 1 ≤ sn + 1 ∧ sn + 1 ≤ 1000000
    omega
/-- nothing falls -/
theorem Ac.prep_keeps (a : Ac) (br : Nat) (bn : Int) : B.less (a.prep br bn).pr (a.prep br bn).pn a.pr a.pn = false ∧ a.sl ≤ (a.prep br bn).sl := by
  unfold Ac.prep
  cases hm : a.may br bn with
  | false => exact ⟨B.less_self _ _, Int.le_refl _⟩
  | true => exact ⟨((Ac.may_iff a br bn).1 hm).2.2, Int.le_refl _⟩
theorem Ac.vote_keeps (a : Ac) (br : Nat) (bn sn : Int) (x : Cm) : B.less (a.vote br bn sn x).pr (a.vote br bn sn x).pn a.pr a.pn = false ∧ a.sl ≤ (a.vote br bn sn x).sl := by
  unfold Ac.vote
  by_cases hh : a.how br bn sn x = 3
  · obtain ⟨h1, h2, h3⟩ := Ac.how_three hh
    rw [decide_eq_true hh]
    exact ⟨((Ac.may_iff a br bn).1 h1).2.2, Int.le_of_eq h3.symm⟩
  · rw [decide_eq_false hh]; exact ⟨B.less_self _ _, Int.le_refl _⟩
theorem Ac.learn_keeps (a : Ac) (sn : Int) : B.less (a.learn sn).pr (a.learn sn).pn a.pr a.pn = false ∧ a.sl ≤ (a.learn sn).sl := by
  unfold Ac.learn
  cases hm : a.learns sn with
  | false => exact ⟨B.less_self _ _, Int.le_refl _⟩
  | true =>
    obtain ⟨g1, g2, g3⟩ := (Ac.learns_iff a sn).1 hm
    exact ⟨B.less_self _ _, by show a.sl ≤ sn + 1; omega⟩
/-- a vote is of no greater ballot than is promised -/
theorem Ac.formed_vote {a : Ac} (h : a.formed = true) (hh : a.ha = true) : B.less a.pr a.pn a.vr a.vn = false := ((Ac.formed_has hh).1 h).2.2.2.1
end Go.Proofs.YtbahooohkigcnaaDoor

namespace Go.Proofs.YtbahooohkigcnaaDoor
set_option maxRecDepth 20001
open Go.RowKit T
set_option linter.unusedSimpArgs false
set_option linter.unusedVariables false

namespace T
/-- what is done -/
structure AOp where
  k : Int
  br : Nat
  bn : Int
  sn : Int
  x : Cm
def AOp.cells (o : AOp) : List Value := [.int .i64 o.k, .int .u32 (o.br : Int), .int .i64 o.bn, .int .i64 o.sn] ++ o.x.cells
theorem AOp.one (o : AOp) : o.cells.toArray.all (·.oneCell') = true := by simp [AOp.cells, Cm.cells, Value.oneCell']
theorem AOp.part (o : AOp) : ∀ j v, o.x.cells[j]? = some v → o.cells[4 + j]? = some v := fun j v h => by
  unfold AOp.cells
  rw [List.getElem?_append_right (by simp)]
  simpa using h
/-- what it makes of an acceptor -/
def Ac.step (a : Ac) (o : AOp) : Ac :=
  if o.k = 1 then a.prep o.br o.bn else if o.k = 2 then a.vote o.br o.bn o.sn o.x else if o.k = 3 then a.learn o.sn else a
end T
end Go.Proofs.YtbahooohkigcnaaDoor

namespace Go.Proofs.YtbahooohkigcnaaDoor
set_option maxRecDepth 20001
open Go.RowKit Go.ChangeShapes Go.WideShapes Go.ChangeAt T
set_option linter.unusedSimpArgs false
set_option linter.unusedVariables false
section
variable {W : World} {cs : List Value} {v : Value}
theorem Cel.ac (h : Cel W 39 cs) : ∃ a : Ac, cs = a.cells ∧ CmOk W W.heap.size a.c := by
  have hl := h.len Tryd.underlying39
  rw [show Tryd.prog.cellsOf 39 = 16 by kernel_rfl] at hl
  match cs, hl with
  | [v0, v1, v2, v3, v4, v5, v6, v7, v8, v9, v10, v11, v12, v13, v14, v15], _ =>
    have hp := h.field Tryd.underlying39 0 _ rfl
    rw [show Tryd.prog.cellsOf _ = 2 by kernel_rfl] at hp
    obtain ⟨pr, pn, e, _⟩ := Cel.bal hp
    simp at e
    obtain ⟨rfl, rfl⟩ := e
    obtain ⟨sl, hsl, _⟩ := (h.field1 Tryd.underlying39 1 2 3 _ rfl rfl rfl (by kernel_rfl) v2 rfl).i64 Tryd.underlying3
    obtain ⟨ha, hha⟩ := (h.field1 Tryd.underlying39 2 3 4 _ rfl rfl rfl (by kernel_rfl) v3 rfl).bool Tryd.underlying4
    have hv := h.field Tryd.underlying39 3 _ rfl
    rw [show Tryd.prog.cellsOf _ = 2 by kernel_rfl] at hv
    obtain ⟨vr, vn, e, _⟩ := Cel.bal hv
    simp at e
    obtain ⟨rfl, rfl⟩ := e
    have hc := h.field Tryd.underlying39 4 _ rfl
    rw [show Tryd.prog.cellsOf _ = 10 by kernel_rfl] at hc
    obtain ⟨x, e, r⟩ := Cel.cm hc
    cases hsl; cases hha
    refine ⟨⟨pr, pn, sl, ha, vr, vn, x⟩, ?_, r⟩
    have e' : [v6, v7, v8, v9, v10, v11, v12, v13, v14, v15] = x.cells := e
    show _ = [_, _, _, _, _, _] ++ x.cells
    rw [← e']; rfl
theorem Arg.ac (h : Arg W 39 v) : ∃ a : Ac, v = .agg a.cells.toArray ∧ CmOk W W.heap.size a.c := by
  obtain ⟨⟨cs⟩, rfl, hc⟩ := h.struct Tryd.underlying39
  obtain ⟨x, hx, r⟩ := Cel.ac hc
  exact ⟨x, by rw [show cs = x.cells from hx], r⟩
instance : Inhabited Ac := ⟨Ac.zero⟩
instance : Inhabited AOp := ⟨⟨0, 0, 0, 0, Cm.zero⟩⟩
end
end Go.Proofs.YtbahooohkigcnaaDoor

namespace Go.Proofs.YtbahooohkigcnaaDoor
set_option maxRecDepth 20001
open Go.RowKit T
set_option linter.unusedSimpArgs false
set_option linter.unusedVariables false
namespace T
def Ac.bless (a b : Ac) : Bool := B.less a.vr a.vn b.vr b.vn
/-- the greatest slot -/
def topOf : List Ac → Int
  | [] => 0
  | a :: t => t.foldl (fun m b => if m < b.sl then b.sl else m) a.sl
def takes (u : Int) (o a : Ac) : Bool := decide (a.sl = u) && a.ha && (!o.ha || o.bless a)
/-- the one with the greatest vote in the slot u -/
def best (u : Int) (l : List Ac) : Ac := l.foldl (fun o a => bif takes u o a then a else o) Ac.zero
end T
theorem topOf_snoc (l : List Ac) (b : Ac) : topOf (l ++ [b]) = if l = [] then b.sl else if topOf l < b.sl then b.sl else topOf l := by
  cases l with
  | nil => rfl
  | cons a t =>
    show (t ++ [b]).foldl _ a.sl = _
    rw [List.foldl_append, if_neg (by simp)]
    rfl
theorem best_snoc (u : Int) (l : List Ac) (a : Ac) : best u (l ++ [a]) = bif takes u (best u l) a then a else best u l := by
  unfold best
  rw [List.foldl_append]
  rfl
theorem topOf_max (t : List Ac) (m : Int) : (m ≤ t.foldl (fun m b => if m < b.sl then b.sl else m) m ∧ ∀ x ∈ t, x.sl ≤ t.foldl (fun m b => if m < b.sl then b.sl else m) m) ∧ (t.foldl (fun m b => if m < b.sl then b.sl else m) m = m ∨ ∃ x ∈ t, t.foldl (fun m b => if m < b.sl then b.sl else m) m = x.sl) := by
  induction t generalizing m with
  | nil => exact ⟨⟨Int.le_refl _, by simp⟩, Or.inl rfl⟩
  | cons a t ih =>
    simp only [List.foldl_cons]
    obtain ⟨⟨h1, h2⟩, h3⟩ := ih (if m < a.sl then a.sl else m)
    generalize t.foldl (fun m b => if m < b.sl then b.sl else m) (if m < a.sl then a.sl else m) = r at *
    by_cases hl : m < a.sl
    · rw [if_pos hl] at h1 h3
      refine ⟨⟨by omega, fun x hx => ?_⟩, ?_⟩
      · rcases List.mem_cons.1 hx with rfl | hx
        · exact h1
        · exact h2 x hx
      · rcases h3 with h3 | ⟨x, hx, h3⟩
        · exact Or.inr ⟨a, by simp, h3⟩
        · exact Or.inr ⟨x, by simp [hx], h3⟩
    · rw [if_neg hl] at h1 h3
      refine ⟨⟨h1, fun x hx => ?_⟩, ?_⟩
      · rcases List.mem_cons.1 hx with rfl | hx
        · omega
        · exact h2 x hx
      · rcases h3 with h3 | ⟨x, hx, h3⟩
        · exact Or.inl h3
        · exact Or.inr ⟨x, by simp [hx], h3⟩
theorem topOf_ge (l : List Ac) : ∀ x ∈ l, x.sl ≤ topOf l := by
  cases l with
  | nil => simp
  | cons a t =>
    intro x hx
    rcases List.mem_cons.1 hx with rfl | hx
    · exact (topOf_max t _).1.1
    · exact (topOf_max t _).1.2 x hx
theorem topOf_mem (l : List Ac) (h : l ≠ []) : ∃ x ∈ l, topOf l = x.sl := by
  cases l with
  | nil => exact absurd rfl h
  | cons a t =>
    rcases (topOf_max t a.sl).2 with h3 | ⟨x, hx, h3⟩
    · exact ⟨a, by simp, h3⟩
    · exact ⟨x, by simp [hx], h3⟩
theorem top_iff (l : List Ac) (x : Ac) (hx : x ∈ l) : (∀ y ∈ l, y.sl ≤ x.sl) ↔ x.sl = topOf l := by
  constructor
  · intro h
    obtain ⟨y, hy, he⟩ := topOf_mem l (fun e => by subst e; simp at hx)
    have h1 := topOf_ge l x hx
    have h2 := h y hy
    omega
  · intro h y hy
    rw [h]; exact topOf_ge l y hy
/-- the reference's state behind k acceptors -/
def PickAt (u : Int) (l : List Ac) (k : Nat) (bi : Int) : Prop :=
  (bi = -1 ∧ best u (l.take k) = Ac.zero) ∨ ∃ j : Nat, bi = (j : Int) ∧ l[j]? = some (best u (l.take k)) ∧ (best u (l.take k)).ha = true
theorem PickAt.zero (u : Int) (l : List Ac) : PickAt u l 0 (-1) := Or.inl ⟨rfl, rfl⟩
theorem PickAt.keep {u : Int} {l : List Ac} {k : Nat} {bi : Int} (h : PickAt u l k bi) (hk : k < l.length) (hn : takes u (best u (l.take k)) l[k] = false) : PickAt u l (k + 1) bi := by
  have e : best u (l.take (k + 1)) = best u (l.take k) := by rw [List.take_succ_eq_append_getElem hk, best_snoc, hn]; rfl
  unfold PickAt at *
  rw [e]; exact h
theorem PickAt.take {u : Int} {l : List Ac} {k : Nat} {bi : Int} (h : PickAt u l k bi) (hk : k < l.length) (hn : takes u (best u (l.take k)) l[k] = true) : PickAt u l (k + 1) (k : Int) := by
  have e : best u (l.take (k + 1)) = l[k] := by rw [List.take_succ_eq_append_getElem hk, best_snoc, hn]; rfl
  refine Or.inr ⟨k, rfl, by rw [e]; exact List.getElem?_eq_getElem hk, ?_⟩
  rw [e]
  unfold takes at hn
  cases hh : l[k].ha with
  | true => rfl
  | false => rw [hh] at hn; simp at hn
/-- the cells of a list of acceptors -/
def acCells (l : List Ac) : List Value := l.flatMap Ac.cells
theorem acCells_snoc (l : List Ac) (a : Ac) : acCells (l ++ [a]) = acCells l ++ a.cells := by simp [acCells]
theorem acCells_at (l : List Ac) (i : Nat) (a : Ac) (h : l[i]? = some a) (j : Nat) (v : Value) (hv : a.cells[j]? = some v) : (acCells l)[i * 16 + j]? = some v := by
  induction l generalizing i with
  | nil => simp at h
  | cons x l ih =>
    have e : acCells (x :: l) = x.cells ++ acCells l := by simp [acCells]
    have hj : j < 16 := by have := (List.getElem?_eq_some_iff.1 hv).1; rwa [Ac.cells_len] at this
    rw [e]
    cases i with
    | zero =>
      simp at h; subst h
      rw [Nat.zero_mul, Nat.zero_add, List.getElem?_append_left (by rw [Ac.cells_len]; exact hj)]
      exact hv
    | succ i =>
      rw [List.getElem?_append_right (by rw [Ac.cells_len]; omega), Ac.cells_len, show (i + 1) * 16 + j - 16 = i * 16 + j by omega]
      exact ih i (by simpa using h)
theorem acOwn {w : World} {base e : Nat} {v : Value} {l : List Ac} (h : w.ownsRow base e 16 v l.length (acCells l)) : ∃ (A : Option Addr) (c : Nat), v = .slice A l.length c ∧ l.length ≤ c ∧ RowsAt w w.heap.size A 16 (l.map Ac.cells) := by
  rcases h.2 with ⟨hv, h0⟩ | ⟨g, cap, cur, hv, _, hg, hle, _⟩
  · refine ⟨none, 0, by rw [hv, h0], by omega, fun i cs hi => ?_⟩
    have := (List.getElem?_eq_some_iff.1 hi).1
    rw [List.length_map] at this; omega
  · subst hv
    refine ⟨_, cap, rfl, hle, fun i cs hi => ?_⟩
    rw [List.getElem?_map] at hi
    obtain ⟨a, ha, rfl⟩ := Option.map_eq_some_iff.1 hi
    refine ⟨g, 0, rfl, (Array.getElem?_eq_some_iff.1 hg).1, fun j v hv => ?_⟩
    have c1 := h.cells (g := g) rfl _ _ (acCells_at l i a ha j v hv)
    rw [Addr.add_lit] at c1
    simpa [Nat.add_assoc] using c1
theorem Ac.votes (a : Ac) : ∀ j v, ([.int .u32 (a.vr : Int), .int .i64 a.vn] : List Value)[j]? = some v → a.cells[4 + j]? = some v := fun j v h => by
  match j, h with
  | 0, h => exact h
  | 1, h => exact h
end Go.Proofs.YtbahooohkigcnaaDoor

namespace Go.Proofs.YtbahooohkigcnaaDoor
set_option maxRecDepth 20001
open Go.RowKit T
set_option linter.unusedSimpArgs false
set_option linter.unusedVariables false
namespace Px
/-- how many below n -/
def cnt (n : Nat) (f : Nat → Bool) : Nat := (List.range n).countP f
theorem cnt_zero (f : Nat → Bool) : cnt 0 f = 0 := rfl
theorem cnt_succ (n : Nat) (f : Nat → Bool) : cnt (n + 1) f = cnt n f + if f n = true then 1 else 0 := by
  unfold cnt; rw [List.range_succ, List.countP_append]; simp [List.countP_cons]
theorem cnt_mono {n : Nat} {f g : Nat → Bool} (h : ∀ j, j < n → f j = true → g j = true) : cnt n f ≤ cnt n g := by
  induction n with
  | zero => simp [cnt_zero]
  | succ n ih =>
    rw [cnt_succ, cnt_succ]
    have := ih (fun j hj => h j (by omega))
    have h1 := h n (by omega)
    by_cases hf : f n = true
    · rw [if_pos hf, if_pos (h1 hf)]; omega
    · rw [if_neg hf]; split <;> omega
theorem cnt_congr {n : Nat} {f g : Nat → Bool} (h : ∀ j, j < n → f j = g j) : cnt n f = cnt n g :=
  Nat.le_antisymm (cnt_mono fun j hj hf => (h j hj) ▸ hf) (cnt_mono fun j hj hf => (h j hj).symm ▸ hf)
theorem lt_iff (r1 : Nat) (n1 : Int) (r2 : Nat) (n2 : Int) : B.less r1 n1 r2 n2 = true ↔ r1 < r2 ∨ r1 = r2 ∧ n1 < n2 := by
  simp [B.less]
theorem nlt_iff (r1 : Nat) (n1 : Int) (r2 : Nat) (n2 : Int) : B.less r1 n1 r2 n2 = false ↔ ¬ (r1 < r2 ∨ r1 = r2 ∧ n1 < n2) := by
  rw [← lt_iff]; simp
/-- a proposal -/
structure Pr where
  br : Nat
  bn : Int
  s : Int
  x : Cm
def upd (A : Nat → Ac) (j : Nat) (a : Ac) : Nat → Ac := fun k => if k = j then a else A k
theorem upd_same (A : Nat → Ac) (j : Nat) (a : Ac) : upd A j a j = a := by simp [upd]
theorem upd_ne (A : Nat → Ac) {j k : Nat} (a : Ac) (h : k ≠ j) : upd A j a k = A k := by simp [upd, h]
abbrev Vt := Nat → Int → Int → Nat → Bool
def vote (V : Vt) (br : Nat) (bn s : Int) (j : Nat) : Vt := fun r n t k => V r n t k || decide (r = br ∧ n = bn ∧ t = s ∧ k = j)
/-- nobody can make a majority for q any more -/
def Dead (n : Nat) (A : Nat → Ac) (V : Vt) (q : Pr) : Prop := n < 2 * cnt n (fun j => !V q.br q.bn q.s j && (B.less q.br q.bn (A j).pr (A j).pn || decide (q.s < (A j).sl)))
structure Inv (n : Nat) (A : Nat → Ac) (P : List Pr) (V : Vt) : Prop where
  fm : ∀ j, j < n → (A j).formed = true
  hs : ∀ j, j < n → (A j).ha = true → ∃ p ∈ P, p.br = (A j).vr ∧ p.bn = (A j).vn ∧ p.s = (A j).sl ∧ p.x = (A j).c ∧ V p.br p.bn p.s j = true
  vt : ∀ p ∈ P, ∀ j, j < n → V p.br p.bn p.s j = true → p.s < (A j).sl ∨ (p.s = (A j).sl ∧ (A j).ha = true ∧ B.less (A j).vr (A j).vn p.br p.bn = false)
  un : ∀ p ∈ P, ∀ q ∈ P, p.br = q.br → p.bn = q.bn → p.s = q.s → p = q
  mj : ∀ p ∈ P, n < 2 * cnt n (fun j => !B.less (A j).pr (A j).pn p.br p.bn)
  sf : ∀ p ∈ P, ∀ q ∈ P, p.s = q.s → B.less q.br q.bn p.br p.bn = true → q.x = p.x ∨ Dead n A V q
  vp : ∀ r m s j, V r m s j = true → ∃ p ∈ P, p.br = r ∧ p.bn = m ∧ p.s = s
/-- has a majority voted for it? -/
def Chosen (n : Nat) (V : Vt) (p : Pr) : Prop := n < 2 * cnt n (V p.br p.bn p.s)
/-- a step of one acceptor that takes nothing back -/
structure Up (a a' : Ac) : Prop where
  fm : a'.formed = true
  pr : B.less a'.pr a'.pn a.pr a.pn = false
  sl : a.sl ≤ a'.sl
theorem Dead.up {n : Nat} {A : Nat → Ac} {V : Vt} {q : Pr} (hd : Dead n A V q) (j : Nat) {a : Ac} (hu : Up (A j) a) : Dead n (upd A j a) V q := by
  unfold Dead at hd ⊢
  refine Nat.lt_of_lt_of_le hd (Nat.mul_le_mul_left 2 (cnt_mono fun k hk h => ?_))
  by_cases e : k = j
  · subst e
    rw [upd_same]
    have h1 := hu.pr; have h2 := hu.sl
    rw [Bool.and_eq_true, Bool.or_eq_true, decide_eq_true_eq, lt_iff] at h ⊢
    rw [nlt_iff] at h1
    refine ⟨h.1, ?_⟩
    have := h.2
    omega
  · rw [upd_ne A a e]; exact h
theorem Inv.mjUp {n : Nat} {A : Nat → Ac} {P : List Pr} {V : Vt} (h : Inv n A P V) (j : Nat) {a : Ac} (hu : Up (A j) a) : ∀ p ∈ P, n < 2 * cnt n (fun k => !B.less (upd A j a k).pr (upd A j a k).pn p.br p.bn) := fun p hp => by
  refine Nat.lt_of_lt_of_le (h.mj p hp) (Nat.mul_le_mul_left 2 (cnt_mono fun k hk h => ?_))
  by_cases e : k = j
  · subst e
    rw [upd_same]
    have h1 := hu.pr
    rw [Bool.not_eq_true', nlt_iff] at h ⊢
    rw [nlt_iff] at h1
    omega
  · rw [upd_ne A a e]; exact h
theorem up_prep {a : Ac} (h : a.formed = true) (br : Nat) (bn : Int) : Up a (a.prep br bn) := ⟨Ac.prep_formed h br bn, (Ac.prep_keeps a br bn).1, (Ac.prep_keeps a br bn).2⟩
theorem up_vote {a : Ac} (h : a.formed = true) (br : Nat) (bn s : Int) (x : Cm) : Up a (a.vote br bn s x) := ⟨Ac.vote_formed h br bn s x, (Ac.vote_keeps a br bn s x).1, (Ac.vote_keeps a br bn s x).2⟩
theorem up_learn {a : Ac} (h : a.formed = true) (s : Int) : Up a (a.learn s) := ⟨Ac.learn_formed h s, (Ac.learn_keeps a s).1, (Ac.learn_keeps a s).2⟩
theorem prep_same (a : Ac) (br : Nat) (bn : Int) : (a.prep br bn).sl = a.sl ∧ (a.prep br bn).ha = a.ha ∧ (a.prep br bn).vr = a.vr ∧ (a.prep br bn).vn = a.vn ∧ (a.prep br bn).c = a.c := by
  unfold Ac.prep; cases a.may br bn <;> exact ⟨rfl, rfl, rfl, rfl, rfl⟩
theorem Inv.prep {n : Nat} {A : Nat → Ac} {P : List Pr} {V : Vt} (h : Inv n A P V) {j : Nat} (hj : j < n) (br : Nat) (bn : Int) : Inv n (upd A j ((A j).prep br bn)) P V := by
  have hu := up_prep (h.fm j hj) br bn
  obtain ⟨e1, e2, e3, e4, e5⟩ := prep_same (A j) br bn
  refine ⟨fun k hk => ?_, fun k hk hh => ?_, fun p hp k hk hv => ?_, h.un, h.mjUp j hu, fun p hp q hq hs hl => (h.sf p hp q hq hs hl).imp id (fun d => d.up j hu), h.vp⟩
  · by_cases e : k = j
    · subst e; rw [upd_same]; exact hu.fm
    · rw [upd_ne A _ e]; exact h.fm k hk
  · by_cases e : k = j
    · subst e
      rw [upd_same] at hh ⊢
      rw [e1, e3, e4, e5]
      exact h.hs k hk (e2 ▸ hh)
    · rw [upd_ne A _ e] at hh ⊢; exact h.hs k hk hh
  · by_cases e : k = j
    · subst e
      rw [upd_same, e1, e2, e3, e4]
      exact h.vt p hp k hk hv
    · rw [upd_ne A _ e]; exact h.vt p hp k hk hv
theorem learn_eq {a : Ac} {s : Int} (h : a.learns s = true) : a.learn s = ⟨a.pr, a.pn, s + 1, false, 0, 0, Cm.zero⟩ := by unfold Ac.learn; rw [h]; rfl
theorem Inv.learn {n : Nat} {A : Nat → Ac} {P : List Pr} {V : Vt} (h : Inv n A P V) {j : Nat} (hj : j < n) (s : Int) : Inv n (upd A j ((A j).learn s)) P V := by
  have hu := up_learn (h.fm j hj) s
  cases hl : (A j).learns s with
  | false =>
    have e0 : (A j).learn s = A j := by unfold Ac.learn; rw [hl]; rfl
    have e1 : upd A j ((A j).learn s) = A := funext fun k => by
      by_cases e : k = j
      · subst e; rw [upd_same, e0]
      · rw [upd_ne A _ e]
    rw [e1]; exact h
  | true =>
    have el := learn_eq hl
    have hsl := ((Ac.learns_iff _ s).1 hl).2.1
    refine ⟨fun k hk => ?_, fun k hk hh => ?_, fun p hp k hk hv => ?_, h.un, h.mjUp j hu, fun p hp q hq hs hl => (h.sf p hp q hq hs hl).imp id (fun d => d.up j hu), h.vp⟩
    · by_cases e : k = j
      · subst e; rw [upd_same]; exact hu.fm
      · rw [upd_ne A _ e]; exact h.fm k hk
    · by_cases e : k = j
      · subst e
        rw [upd_same, el] at hh
        exact absurd hh (by simp)
      · rw [upd_ne A _ e] at hh ⊢; exact h.hs k hk hh
    · by_cases e : k = j
      · subst e
        rw [upd_same, el]
        left
        show p.s < s + 1
        have := h.vt p hp k hk hv
        omega
      · rw [upd_ne A _ e]; exact h.vt p hp k hk hv
theorem vote_eq {a : Ac} {br : Nat} {bn s : Int} {x : Cm} (h : a.how br bn s x = 3) : a.vote br bn s x = ⟨br, bn, s, true, br, bn, x⟩ := by unfold Ac.vote; rw [decide_eq_true h]; rfl
theorem vote_same (V : Vt) (br : Nat) (bn s : Int) (j : Nat) : vote V br bn s j br bn s j = true := by simp [vote]
theorem vote_old {V : Vt} {br : Nat} {bn s : Int} {j : Nat} {r : Nat} {m t : Int} {k : Nat} (h : V r m t k = true) : vote V br bn s j r m t k = true := by simp [vote, h]
theorem vote_of {V : Vt} {br : Nat} {bn s : Int} {j : Nat} {r : Nat} {m t : Int} {k : Nat} (h : vote V br bn s j r m t k = true) : V r m t k = true ∨ (r = br ∧ m = bn ∧ t = s ∧ k = j) := by
  simpa [vote] using h
theorem Inv.vote {n : Nat} {A : Nat → Ac} {P : List Pr} {V : Vt} (h : Inv n A P V) {j : Nat} (hj : j < n) {p : Pr} (hp : p ∈ P) (hw : (A j).how p.br p.bn p.s p.x = 3) :
    Inv n (upd A j ((A j).vote p.br p.bn p.s p.x)) P (vote V p.br p.bn p.s j) := by
  have hu := up_vote (h.fm j hj) p.br p.bn p.s p.x
  have ev := vote_eq hw
  obtain ⟨hmay, hxf, hsl⟩ := Ac.how_three hw
  obtain ⟨haf, hbf, hpl⟩ := (Ac.may_iff _ _ _).1 hmay
  refine ⟨fun k hk => ?_, fun k hk hh => ?_, fun q hq k hk hv => ?_, h.un, h.mjUp j hu, fun p' hp' q hq hs hl => ?_, fun r m s k hv => ?_⟩
  · by_cases e : k = j
    · subst e; rw [upd_same]; exact hu.fm
    · rw [upd_ne A _ e]; exact h.fm k hk
  · by_cases e : k = j
    · subst e
      rw [upd_same, ev]
      exact ⟨p, hp, rfl, rfl, rfl, rfl, vote_same _ _ _ _ _⟩
    · rw [upd_ne A _ e] at hh ⊢
      obtain ⟨q, hq, r1, r2, r3, r4, r5⟩ := h.hs k hk hh
      exact ⟨q, hq, r1, r2, r3, r4, vote_old r5⟩
  · by_cases e : k = j
    · subst e
      rw [upd_same, ev]
      rcases vote_of hv with hv | ⟨e1, e2, e3, _⟩
      · rcases h.vt q hq k hk hv with h1 | ⟨h1, h2, h3⟩
        · left; show q.s < p.s; omega
        · right
          refine ⟨?_, rfl, ?_⟩
          · show q.s = p.s; omega
          · have h4 := Ac.formed_vote haf h2
            show B.less p.br p.bn q.br q.bn = false
            rw [nlt_iff] at h3 h4 hpl ⊢
            omega
      · right
        refine ⟨e3, rfl, ?_⟩
        show B.less p.br p.bn q.br q.bn = false
        rw [e1, e2]; exact B.less_self _ _
    · rw [upd_ne A _ e]
      rcases vote_of hv with hv | ⟨_, _, _, e4⟩
      · exact h.vt q hq k hk hv
      · exact absurd e4 e
  · refine (h.sf p' hp' q hq hs hl).imp id (fun d => ?_)
    have d := d.up j hu
    unfold Dead at d ⊢
    refine Nat.lt_of_lt_of_le d (Nat.mul_le_mul_left 2 (cnt_mono fun k hk hh => ?_))
    rw [Bool.and_eq_true, Bool.not_eq_true'] at hh ⊢
    refine ⟨?_, hh.2⟩
    cases hc : Px.vote V p.br p.bn p.s j q.br q.bn q.s k with
    | false => rfl
    | true =>
      rcases vote_of hc with hv | ⟨e1, e2, e3, e4⟩
      · rw [hh.1] at hv; exact absurd hv (by simp)
      · subst e4
        have h2 := hh.2
        rw [upd_same, ev, e1, e2, e3] at h2
        simp [B.less_self] at h2
  · rcases vote_of hv with hv | ⟨e1, e2, e3, _⟩
    · exact h.vp r m s k hv
    · exact ⟨p, hp, e1.symm, e2.symm, e3.symm⟩
/-- what j told the ballot (br, bn) when it promised: S -/
structure Ev (A : Nat → Ac) (P : List Pr) (V : Vt) (br : Nat) (bn : Int) (j : Nat) (S : Ac) : Prop where
  pr : B.less (A j).pr (A j).pn br bn = false
  nv : ∀ q ∈ P, B.less q.br q.bn br bn = true → V q.br q.bn q.s j = true → q.s < S.sl ∨ (q.s = S.sl ∧ S.ha = true ∧ B.less S.vr S.vn q.br q.bn = false)
  hs : S.ha = true → ∃ p ∈ P, p.br = S.vr ∧ p.bn = S.vn ∧ p.s = S.sl ∧ p.x = S.c
theorem Ev.made {n : Nat} {A : Nat → Ac} {P : List Pr} {V : Vt} (h : Inv n A P V) {j : Nat} (hj : j < n) {br : Nat} {bn : Int} (hm : (A j).may br bn = true) :
    Ev (upd A j ((A j).prep br bn)) P V br bn j ((A j).prep br bn) := by
  obtain ⟨e1, e2, e3, e4, e5⟩ := prep_same (A j) br bn
  refine ⟨?_, fun q hq hl hv => ?_, fun hh => ?_⟩
  · rw [upd_same]
    unfold Ac.prep; rw [hm]; exact B.less_self _ _
  · rw [e1, e2, e3, e4]; exact h.vt q hq j hj hv
  · rw [e2] at hh
    obtain ⟨p, hp, r1, r2, r3, r4, _⟩ := h.hs j hj hh
    rw [e1, e3, e4, e5]
    exact ⟨p, hp, r1, r2, r3, r4⟩
theorem Ev.up {A : Nat → Ac} {P : List Pr} {V : Vt} {br : Nat} {bn : Int} {j : Nat} {S : Ac} (h : Ev A P V br bn j S) (k : Nat) {a : Ac} (hu : Up (A k) a) : Ev (upd A k a) P V br bn j S := by
  refine ⟨?_, h.nv, h.hs⟩
  by_cases e : j = k
  · subst e
    rw [upd_same]
    have h1 := h.pr; have h2 := hu.pr
    rw [nlt_iff] at h1 h2 ⊢
    omega
  · rw [upd_ne A _ e]; exact h.pr
theorem Ev.vote {A : Nat → Ac} {P : List Pr} {V : Vt} {br : Nat} {bn : Int} {j : Nat} {S : Ac} (h : Ev A P V br bn j S) {k : Nat} {p : Pr} (hw : (A k).how p.br p.bn p.s p.x = 3) (hf : (A k).formed = true) :
    Ev (upd A k ((A k).vote p.br p.bn p.s p.x)) P (vote V p.br p.bn p.s k) br bn j S := by
  have hu := up_vote hf p.br p.bn p.s p.x
  refine ⟨(h.up k hu).pr, fun q hq hl hv => ?_, h.hs⟩
  rcases vote_of hv with hv | ⟨e1, e2, e3, e4⟩
  · exact h.nv q hq hl hv
  · subst e4
    have h1 := h.pr
    have h2 := ((Ac.may_iff _ _ _).1 (Ac.how_three hw).1).2.2
    rw [nlt_iff] at h1 h2
    rw [lt_iff, e1, e2] at hl
    omega
theorem Ev.new {A : Nat → Ac} {P : List Pr} {V : Vt} {br : Nat} {bn : Int} {j : Nat} {S : Ac} (h : Ev A P V br bn j S) {p : Pr} (hn : ∀ k, V p.br p.bn p.s k = false) : Ev A (P ++ [p]) V br bn j S := by
  refine ⟨h.pr, fun q hq hl hv => ?_, fun hh => ?_⟩
  · rcases List.mem_append.1 hq with hq | hq
    · exact h.nv q hq hl hv
    · rw [List.mem_singleton.1 hq, hn] at hv; exact absurd hv (by simp)
  · obtain ⟨p, hp, r⟩ := h.hs hh
    exact ⟨p, List.mem_append_left _ hp, r⟩
/-- what is best of all that are in one slot -/
theorem fold_spec (u : Int) (l : List Ac) : ∀ o : Ac, (o.ha = true → o.sl = u) →
    (l.foldl (fun o a => bif takes u o a then a else o) o = o ∨ l.foldl (fun o a => bif takes u o a then a else o) o ∈ l) ∧
    ((l.foldl (fun o a => bif takes u o a then a else o) o).ha = true → (l.foldl (fun o a => bif takes u o a then a else o) o).sl = u) ∧
    (o.ha = true → (l.foldl (fun o a => bif takes u o a then a else o) o).ha = true ∧ B.less (l.foldl (fun o a => bif takes u o a then a else o) o).vr (l.foldl (fun o a => bif takes u o a then a else o) o).vn o.vr o.vn = false) ∧
    ∀ a ∈ l, a.sl = u → a.ha = true → (l.foldl (fun o a => bif takes u o a then a else o) o).ha = true ∧ B.less (l.foldl (fun o a => bif takes u o a then a else o) o).vr (l.foldl (fun o a => bif takes u o a then a else o) o).vn a.vr a.vn = false := by
  induction l with
  | nil => exact fun o ho => ⟨.inl rfl, ho, fun h => ⟨h, B.less_self _ _⟩, by simp⟩
  | cons b t ih =>
    intro o ho
    rw [List.foldl_cons]
    cases ht : takes u o b with
    | true =>
      rw [cond_true]
      have ht' := ht
      unfold takes at ht'
      rw [Bool.and_eq_true, Bool.and_eq_true, decide_eq_true_eq, Bool.or_eq_true, Bool.not_eq_true'] at ht'
      obtain ⟨⟨t1, t2⟩, t3⟩ := ht'
      obtain ⟨i1, i2, i3, i4⟩ := ih b (fun _ => t1)
      refine ⟨?_, i2, fun h => ⟨(i3 t2).1, ?_⟩, fun a ha hs hh => ?_⟩
      · right
        rcases i1 with i1 | i1
        · rw [i1]; exact List.mem_cons_self
        · exact List.mem_cons_of_mem _ i1
      · have j := (i3 t2).2
        rcases t3 with t3 | t3
        · rw [t3] at h; exact absurd h (by simp)
        · unfold Ac.bless at t3
          rw [nlt_iff] at j ⊢
          rw [lt_iff] at t3
          omega
      · rcases List.mem_cons.1 ha with e | e
        · rw [e]; exact i3 t2
        · exact i4 a e hs hh
    | false =>
      rw [cond_false]
      obtain ⟨i1, i2, i3, i4⟩ := ih o ho
      refine ⟨?_, i2, i3, fun a ha hs hh => ?_⟩
      · rcases i1 with i1 | i1
        · exact .inl i1
        · exact .inr (List.mem_cons_of_mem _ i1)
      · rcases List.mem_cons.1 ha with e | e
        · subst e
          unfold takes at ht
          rw [decide_eq_true hs, hh, Bool.true_and, Bool.true_and] at ht
          rw [Bool.or_eq_false_iff, Bool.not_eq_false'] at ht
          obtain ⟨t1, t2⟩ := ht
          obtain ⟨k1, k2⟩ := i3 t1
          refine ⟨k1, ?_⟩
          unfold Ac.bless at t2
          rw [nlt_iff] at k2 t2 ⊢
          omega
        · exact i4 a e hs hh
theorem best_spec (u : Int) (l : List Ac) : ((best u l).ha = true → best u l ∈ l ∧ (best u l).sl = u) ∧ ∀ a ∈ l, a.sl = u → a.ha = true → (best u l).ha = true ∧ B.less (best u l).vr (best u l).vn a.vr a.vn = false := by
  obtain ⟨i1, i2, i3, i4⟩ := fold_spec u l Ac.zero (fun h => absurd h (by simp [Ac.zero]))
  refine ⟨fun h => ⟨?_, i2 h⟩, i4⟩
  rcases i1 with i1 | i1
  · unfold best at h
    rw [i1] at h
    exact absurd h (by simp [Ac.zero])
  · exact i1
/-- a new proposal: whoever was asked told S; those of the slot itself lie in L; the command is what is best of them, if there is one -/
theorem Inv.new {n : Nat} {A : Nat → Ac} {P : List Pr} {V : Vt} (h : Inv n A P V) (p : Pr) (f : Nat → Bool) (L : List Ac) (hmaj : n < 2 * cnt n f)
    (hf : ∀ j, j < n → f j = true → ∃ S, Ev A P V p.br p.bn j S ∧ S.sl ≤ p.s ∧ (S.sl = p.s → S ∈ L))
    (hL : ∀ S ∈ L, S.ha = true → ∃ p ∈ P, p.br = S.vr ∧ p.bn = S.vn ∧ p.s = S.sl ∧ p.x = S.c)
    (hx : (best p.s L).ha = true → p.x = (best p.s L).c)
    (hn : ∀ q ∈ P, ¬ (q.br = p.br ∧ q.bn = p.bn ∧ q.s = p.s)) : Inv n A (P ++ [p]) V := by
  have hV : ∀ k, V p.br p.bn p.s k = false := fun k => by
    cases hv : V p.br p.bn p.s k with
    | false => rfl
    | true =>
      obtain ⟨q, hq, r1, r2, r3⟩ := h.vp _ _ _ _ hv
      exact absurd ⟨r1, r2, r3⟩ (hn q hq)
  have hpm : n < 2 * cnt n (fun j => !B.less (A j).pr (A j).pn p.br p.bn) := by
    refine Nat.lt_of_lt_of_le hmaj (Nat.mul_le_mul_left 2 (cnt_mono fun j hj hh => ?_))
    obtain ⟨S, hS, _⟩ := hf j hj hh
    rw [hS.pr]; rfl
  refine ⟨h.fm, fun j hj hh => ?_, fun q hq j hj hv => ?_, fun q hq r hr e1 e2 e3 => ?_, fun q hq => ?_, fun q hq r hr hs hl => ?_, fun r m s j hv => ?_⟩
  · obtain ⟨q, hq, r⟩ := h.hs j hj hh
    exact ⟨q, List.mem_append_left _ hq, r⟩
  · rcases List.mem_append.1 hq with hq | hq
    · exact h.vt q hq j hj hv
    · rw [List.mem_singleton.1 hq, hV] at hv; exact absurd hv (by simp)
  · rcases List.mem_append.1 hq with hq | hq <;> rcases List.mem_append.1 hr with hr | hr
    · exact h.un q hq r hr e1 e2 e3
    · rw [List.mem_singleton.1 hr] at e1 e2 e3
      exact absurd ⟨e1, e2, e3⟩ (hn q hq)
    · rw [List.mem_singleton.1 hq] at e1 e2 e3
      exact absurd ⟨e1.symm, e2.symm, e3.symm⟩ (hn r hr)
    · rw [List.mem_singleton.1 hq, List.mem_singleton.1 hr]
  · rcases List.mem_append.1 hq with hq | hq
    · exact h.mj q hq
    · rw [List.mem_singleton.1 hq]; exact hpm
  · rcases List.mem_append.1 hq with hq1 | hq1 <;> rcases List.mem_append.1 hr with hr1 | hr1
    · exact h.sf q hq1 r hr1 hs hl
    · -- the new one is below an old one
      right
      rw [List.mem_singleton.1 hr1] at hl ⊢
      unfold Dead
      refine Nat.lt_of_lt_of_le (h.mj q hq1) (Nat.mul_le_mul_left 2 (cnt_mono fun j hj hh => ?_))
      rw [Bool.not_eq_true', nlt_iff] at hh
      rw [lt_iff] at hl
      rw [hV j, Bool.and_eq_true, Bool.or_eq_true, lt_iff]
      exact ⟨rfl, .inl (by omega)⟩
    · -- an old one is below the new one
      have ep := List.mem_singleton.1 hq1
      subst ep
      -- whoever of those asked has voted for r: its vote is among L
      have key : ∀ j, j < n → f j = true → V r.br r.bn r.s j = true → (best q.s L).ha = true ∧ B.less (best q.s L).vr (best q.s L).vn r.br r.bn = false := fun j hj hh hv => by
        obtain ⟨S, hS, hS1, hS2⟩ := hf j hj hh
        rcases hS.nv r hr1 hl hv with h1 | ⟨h1, h2, h3⟩
        · omega
        · have hSL := hS2 (by omega)
          obtain ⟨k1, k2⟩ := (best_spec q.s L).2 S hSL (by omega) h2
          refine ⟨k1, ?_⟩
          rw [nlt_iff] at h3 k2 ⊢
          omega
      have dead : (∀ j, j < n → f j = true → V r.br r.bn r.s j = false) → Dead n A V r := fun hno => by
        unfold Dead
        refine Nat.lt_of_lt_of_le hmaj (Nat.mul_le_mul_left 2 (cnt_mono fun j hj hh => ?_))
        obtain ⟨S, hS, _⟩ := hf j hj hh
        have h1 := hS.pr
        rw [nlt_iff] at h1
        rw [lt_iff] at hl
        rw [hno j hj hh, Bool.and_eq_true, Bool.or_eq_true, lt_iff]
        exact ⟨rfl, .inl (by omega)⟩
      cases hb : (best q.s L).ha with
      | false =>
        right
        refine dead fun j hj hh => ?_
        cases hv : V r.br r.bn r.s j with
        | false => rfl
        | true => have := (key j hj hh hv).1; rw [hb] at this; exact absurd this (by simp)
      | true =>
        obtain ⟨b1, b2⟩ := (best_spec q.s L).1 hb
        obtain ⟨m, hm, m1, m2, m3, m4⟩ := hL _ b1 hb
        have hxm : m.x = q.x := by rw [m4, hx hb]
        cases hlt : B.less r.br r.bn m.br m.bn with
        | true =>
          rcases h.sf m hm r hr1 (by omega) hlt with e | d
          · left; rw [e, hxm]
          · exact .inr d
        | false =>
          by_cases he : r.br = m.br ∧ r.bn = m.bn
          · left; rw [h.un r hr1 m hm he.1 he.2 (by omega), hxm]
          · right
            refine dead fun j hj hh => ?_
            cases hv : V r.br r.bn r.s j with
            | false => rfl
            | true =>
              have k2 := (key j hj hh hv).2
              rw [nlt_iff, ← m1, ← m2] at k2
              rw [nlt_iff] at hlt
              omega
    · rw [List.mem_singleton.1 hq1, List.mem_singleton.1 hr1] at hl
      rw [B.less_self] at hl; exact absurd hl (by simp)
  · obtain ⟨q, hq, r⟩ := h.vp r m s j hv
    exact ⟨q, List.mem_append_left _ hq, r⟩
/-- at first -/
theorem Inv.first (n : Nat) : Inv n (fun _ => Ac.new) [] (fun _ _ _ _ => false) :=
  ⟨fun _ _ => Ac.new_formed, fun _ _ h => absurd h (by simp [Ac.new]), by simp, by simp, by simp, by simp, by simp⟩
end Px
end Go.Proofs.YtbahooohkigcnaaDoor

namespace Go.Proofs.YtbahooohkigcnaaDoor
set_option maxRecDepth 20001
open Go.RowKit T
set_option linter.unusedSimpArgs false
set_option linter.unusedVariables false

namespace T
/-- a leader -/
structure Ld where
  n : Int
  nd : Int
  br : Nat
  bn : Int
  pr : Nat
  l : List Ac
  A : Option Addr
  c : Nat
  fs : Int
  sl : Int
  x : Cm
  vt : Nat
def Ld.cells (L : Ld) : List Value := [.int .i64 L.n, .int .i64 L.nd, .int .u32 (L.br : Int), .int .i64 L.bn, .int .u64 (L.pr : Int), .slice L.A L.l.length L.c, .int .i64 L.fs, .int .i64 L.sl, .int .i64 L.x.k, .int .i64 L.x.s, .int .i64 L.x.q, .slice L.x.A1 L.x.rs.length L.x.c1, .slice L.x.A2 L.x.ws.length L.x.c2, .int .i64 L.x.i, .int .i64 L.x.j, .int .i64 L.x.g, .int .u64 (L.x.st : Int), .bool L.x.y, .int .u64 (L.vt : Int)]
theorem Ld.cells_len (L : Ld) : L.cells.length = 19 := rfl
def Ld.new (n nd : Int) : Ld := ⟨n, nd, 0, 0, 0, [], none, 0, 0, 0, Cm.zero, 0⟩
end T
theorem sizeLd : (Tryd.prog.info? 144).map (·.size) = some 19 := by kernel_rfl
theorem Ld.one (L : Ld) : L.cells.toArray.all (·.oneCell') = true := by simp [Ld.cells, Value.oneCell']
theorem Ld.ballot (L : Ld) : ∀ j v, ([.int .u32 (L.br : Int), .int .i64 L.bn] : List Value)[j]? = some v → L.cells[2 + j]? = some v := fun j v h => by
  match j, h with
  | 0, h => exact h
  | 1, h => exact h
  | j + 2, h => simp at h
theorem Ld.cmd (L : Ld) : ∀ j v, L.x.cells[j]? = some v → L.cells[8 + j]? = some v := fun j v h => by
  have e : L.cells = [.int .i64 L.n, .int .i64 L.nd, .int .u32 (L.br : Int), .int .i64 L.bn, .int .u64 (L.pr : Int), .slice L.A L.l.length L.c, .int .i64 L.fs, .int .i64 L.sl] ++ (L.x.cells ++ [.int .u64 (L.vt : Int)]) := rfl
  rw [e, List.getElem?_append_right (by simp), List.getElem?_append_left (by have := (List.getElem?_eq_some_iff.1 h).1; simp; exact this)]
  simpa using h
/-- a leader lies in block h -/
def LdAt (w : World) (h : Nat) (L : Ld) : Prop := w.heap[h]? = some (.cells L.cells.toArray 144 (0, 0))
theorem Ld.leads_q (s : Nat) (n : Int) (hs : s < 18446744073709551616) (w : World) : ∀ m, Calls Tryd.prog 82 #[.int .u64 (s : Int), .int .i64 n] (w.drewN m) fun e w' => e = .returned (.bool (Q.majB s n)) ∧ ∃ r, w' = w.drewN r :=
  fun m => (maj_any s n (w.drewN m) hs).mono fun _ _ h => ⟨h.1, m, h.2.symm⟩
theorem Ld.has_q (s : Nat) (n : Int) (hs : s < 18446744073709551616) (w : World) : ∀ m, Calls Tryd.prog 80 #[.int .u64 (s : Int), .int .i64 n] (w.drewN m) fun e w' => e = .returned (.bool (Q.hasB s n)) ∧ ∃ r, w' = w.drewN r :=
  fun m => (has_any s n (w.drewN m) hs).mono fun _ _ h => ⟨h.1, m, h.2.symm⟩
def okN (n nd : Int) : Bool := decide ((n = 1 ∨ n = 3 ∨ n = 5) ∧ 0 ≤ nd ∧ nd < n)
set_option maxHeartbeats 1600000 in
theorem lnew_ok (n nd : Int) (w : World) (h : okN n nd = true) : Calls Tryd.prog 34 #[.int .i64 n, .int .i64 nd] w fun e w' => e = .returned (.pointer (some ⟨w.heap.size, 0, none⟩)) ∧ w' = w.alloc (.cells (Ld.new n nd).cells.toArray 144) := by
  have h := of_decide_eq_true h
  have g0 : decide (nd < 0) = false := decide_eq_false (by omega)
  rcases h with ⟨rfl | rfl | rfl, h0, h1⟩
  · have g1 : decide ((1 : Int) ≤ nd) = false := decide_eq_false (by omega)
    clear h0 h1
    go_enter Tryd.func34, Tryd.ntmps34
    go_wp2_with fail
    go_ret
    exact ⟨rfl, rfl⟩
  · have g1 : decide ((3 : Int) ≤ nd) = false := decide_eq_false (by omega)
    clear h0 h1
    go_enter Tryd.func34, Tryd.ntmps34
    go_wp2_with fail
    go_ret
    exact ⟨rfl, rfl⟩
  · have g1 : decide ((5 : Int) ≤ nd) = false := decide_eq_false (by omega)
    clear h0 h1
    go_enter Tryd.func34, Tryd.ntmps34
    go_wp2_with fail
    go_ret
    exact ⟨rfl, rfl⟩
/-! ### no leader -/
section
variable (w : World)
end
end Go.Proofs.YtbahooohkigcnaaDoor

namespace Go.Proofs.YtbahooohkigcnaaDoor
set_option maxRecDepth 20001
open Go.RowKit T
set_option linter.unusedSimpArgs false
set_option linter.unusedVariables false

section
variable {w z a b c : World} {h k : Nat} {old cs : Array Value} {t : TypeId}
theorem lgTrans {r : Option Nat} (p : a.grownBy b r) (q : b.grownBy c r) : a.grownBy c r :=
  ⟨q.os.trans p.os, q.tape.trans p.tape, q.output.trans p.output, Nat.le_trans p.size q.size, fun i hi hne => (q.block i (Nat.lt_of_lt_of_le hi p.size) hne).trans (p.block i hi hne)⟩
theorem lgRefl (w : World) (h : Nat) : w.grownBy w (some h) := ⟨rfl, rfl, rfl, Nat.le_refl _, fun _ _ _ => rfl⟩
theorem lgB2 {B : Nat} (p : Below B a b) (hB : a.heap.size ≤ B) : a.grownBy b (some h) := ⟨p.os, p.tape, p.output, p.size, fun i hi _ => p.block i (by omega)⟩
theorem lgBelow (p : w.grownBy z (some h)) (q : Below z.heap.size z c) : w.grownBy c (some h) := lgTrans p ⟨q.os, q.tape, q.output, q.size, fun i hi _ => q.block i hi⟩
theorem lgAlloc (p : w.grownBy z (some h)) (o : Obj) : w.grownBy (z.alloc o) (some h) := lgTrans p (World.grownBy_alloc z o (some h))
theorem lgDrew (p : w.grownBy z (some h)) : w.grownBy z.drew (some h) := ⟨p.os, p.tape, p.output, p.size, p.block⟩
theorem lgDrewN (p : w.grownBy z (some h)) (n : Nat) : w.grownBy (z.drewN n) (some h) := ⟨p.os, p.tape, p.output, p.size, p.block⟩
theorem lgRow (hk : k = h ∨ w.heap.size ≤ k) (hz : z.heap[k]? = some (.cells old t (0, 0))) (p : w.grownBy z (some h)) : w.grownBy (z.setRow k cs) (some h) :=
  ⟨p.os, p.tape, p.output, by rw [setRow_size]; exact p.size, fun i hi hne => (setRow_other z k i cs (fun e => by
    rcases hk with hk | hk
    · exact hne (by rw [e, hk])
    · omega)).trans (p.block i hi hne)⟩
theorem lgCells (hk : k = h ∨ w.heap.size ≤ k) : ∀ (vs : List Value) (i : Nat) (z : World), w.grownBy z (some h) → w.grownBy (z.setCells k i vs) (some h)
  | [], _, _, p => p
  | v :: r, i, z, p => lgCells hk r (i + 1) (z.setCell ⟨k, i, none⟩ v) ⟨p.os, p.tape, p.output, (show w.heap.size ≤ (z.setCell ⟨k, i, none⟩ v).heap.size by simpa using p.size), fun j hj hne => (Below.heap_setCell z ⟨k, i, none⟩ v j (fun e => by
    rcases hk with hk | hk
    · exact hne (by rw [e]; show some k = some h; rw [hk])
    · have e2 : j = k := e
      omega)).trans (p.block j hj hne)⟩
theorem rangeCell0 {b : Nat} {cs : List Value} (h : w.rangeAt b 0 cs) (j : Nat) {v : Value} (hv : cs[j]? = some v) : w.cell? ⟨b, j, none⟩ = some v := by
  have := h j v hv
  rwa [Nat.zero_add] at this
/-- two ballots side by side -/
theorem balsAt2 {b r1 r2 : Nat} {n1 n2 : Int} (hz : z.heap[b]? = some (.cells [.int .u32 (r1 : Int), .int .i64 n1, .int .u32 (r2 : Int), .int .i64 n2].toArray t (0, 0))) : BalsAt z (b + 1) (some ⟨b, 0, none⟩) [(r1, n1), (r2, n2)] := fun i f hf => by
  match i, hf with
  | 0, hf => cases hf; exact ⟨b, 0, rfl, by omega, rowCell hz 0 rfl, rowCell hz 1 rfl⟩
  | 1, hf => cases hf; exact ⟨b, 0, rfl, by omega, rowCell hz 2 rfl, rowCell hz 3 rfl⟩
  | i + 2, hf => simp at hf
end
theorem B.next_err (r : Nat) (n k : Int) (h : (B.next r n k).2.2 ≠ 0) : (B.next r n k).1 = 0 ∧ (B.next r n k).2.1 = 0 := by
  unfold B.next at h ⊢
  split
  · exact ⟨rfl, rfl⟩
  · split
    · exact ⟨rfl, rfl⟩
    · rename_i h1 h2
      rw [if_neg h1, if_neg h2] at h
      exact absurd rfl h
theorem B.next_lt {r : Nat} {n k : Int} (hr : r < 4294967296) : (B.next r n k).1 < 4294967296 := by
  unfold B.next
  split
  · simp
  · split
    · simp
    · simp; omega
theorem B.most2_lt {r1 r2 : Nat} {n1 n2 : Int} (h1 : r1 < 4294967296) (h2 : r2 < 4294967296) : (B.most [(r1, n1), (r2, n2)]).1 < 4294967296 := by
  have := B.most_mem [(r1, n1), (r2, n2)] (by simp)
  simp only [List.mem_cons, List.not_mem_nil, or_false] at this
  rcases this with h | h <;> rw [h] <;> assumption
namespace T
def Ld.nx (L : Ld) (r : Nat) (n : Int) : Nat × Int × Int := B.next (B.most [(r, n), (L.br, L.bn)]).1 (B.most [(r, n), (L.br, L.bn)]).2 L.nd
def Ld.start (L : Ld) (r : Nat) (n : Int) : Ld := bif decide ((L.nx r n).2.2 = 0) then ⟨L.n, L.nd, (L.nx r n).1, (L.nx r n).2.1, 0, [], none, 0, 0, 0, Cm.zero, 0⟩ else L
end T
theorem info_bal9 : (Tryd.prog.info? 28).map (fun i => (i.zero, i.size, i.bytes)) = some (some (.agg #[.int .u32 0, .int .i64 0]), 2, 16) := by kernel_rfl
theorem fillB2 (r1 r2 : Nat) (n1 n2 : Int) (cells : Array Value) (hn : cells.size = 4) : Instr.fill (fun i => some (i * 2, 2)) cells [(0, .agg [.int .u32 (r1 : Int), .int .i64 n1].toArray), (1, .agg [.int .u32 (r2 : Int), .int .i64 n2].toArray)] = some [.int .u32 (r1 : Int), .int .i64 n1, .int .u32 (r2 : Int), .int .i64 n2].toArray := by
  have := Great.fill_whole (s := 2) (by omega) [Value.agg [.int .u32 (r1 : Int), .int .i64 n1].toArray, Value.agg [.int .u32 (r2 : Int), .int .i64 n2].toArray] cells (by intro v hv; simp at hv; rcases hv with rfl | rfl <;> rfl) (by simp [hn])
  simpa [Value.cells] using this
set_option maxHeartbeats 3200000 in
theorem lstart (w : World) (h : Nat) (L : Ld) (r : Nat) (n : Int) (hr : r < 4294967296) (hb : L.br < 4294967296) (hL : LdAt w h L) :
    Calls Tryd.prog 35 #[.pointer (some ⟨h, 0, none⟩), bal r n] w fun e w' => e = .returned (.tuple #[bal (L.nx r n).1 (L.nx r n).2.1, .int .i64 (L.nx r n).2.2]) ∧ LdAt w' h (L.start r n) ∧ w.grownBy w' (some h) := by
  obtain ⟨i1, hi1, hz10, hz11, hz12⟩ := info_parts info_bal9
  have HM := Lib.hid (fun (z : World) (b : Nat) (hb : b + 1 ≤ z.heap.size) (hz : z.heap[b]? = some (.cells [.int .u32 (r : Int), .int .i64 n, .int .u32 (L.br : Int), .int .i64 L.bn].toArray 28 (0, 0))) => most_any (some ⟨b, 0, none⟩) 2 [(r, n), (L.br, L.bn)] z (b + 1) (by simp) (by simp) (balsAt2 hz) hb)
  have HX := Lib.hid (fun z => next_any (B.most [(r, n), (L.br, L.bn)]).1 (B.most [(r, n), (L.br, L.bn)]).2 L.nd z (B.most2_lt hr hb))
  have HE := Lib.hid (B.next_err (B.most [(r, n), (L.br, L.bn)]).1 (B.most [(r, n), (L.br, L.bn)]).2 L.nd)
  have HS : Hid (L.start r n = bif decide ((L.nx r n).2.2 = 0) then ⟨L.n, L.nd, (L.nx r n).1, (L.nx r n).2.1, 0, [], none, 0, 0, 0, Cm.zero, 0⟩ else L) := rfl
  obtain ⟨X, hX⟩ : ∃ X, X = L.nx r n := ⟨_, rfl⟩
  rw [← hX] at HS ⊢
  rw [show B.next (B.most [(r, n), (L.br, L.bn)]).1 (B.most [(r, n), (L.br, L.bn)]).2 L.nd = X from hX.symm] at HX HE
  clear hX hr hb
  generalize B.most [(r, n), (L.br, L.bn)] = mm at HM HX
  obtain ⟨mr, mn⟩ := mm
  obtain ⟨xr, xn, xe⟩ := X
  simp only at HS HE HX HM
  have hlt : h < w.heap.size := (Array.getElem?_eq_some_iff.1 hL).1
  obtain ⟨w0, hw0⟩ : ∃ w0, w0 = (w.alloc (.cells [.int .u32 (r : Int), .int .i64 n].toArray 28)).alloc (.cells #[.int .u32 0, .int .i64 0] 28) := ⟨_, rfl⟩
  have ee : w.grownBy w0 (some h) := by rw [hw0]; exact lgAlloc (lgAlloc (lgRefl _ _) _) _
  have Zl : w0.heap[h]? = some (.cells L.cells.toArray 144) := by rw [hw0]; exact hpA (hpA hL _) _
  have Zs : w0.heap[w.heap.size]? = some (.cells [.int .u32 (r : Int), .int .i64 n].toArray 28) := by rw [hw0]; exact hpA (hpN _ _ rfl) _
  have Zr : w0.heap[w.heap.size + 1]? = some (.cells #[.int .u32 0, .int .i64 0] 28) := by rw [hw0]; exact hpN _ _ (by simp)
  go_enter Tryd.func35, Tryd.ntmps35
  go_upto_region 3 with fail
  change Code.wp _ _ _ _ ((w.alloc (.cells [.int .u32 (r : Int), .int .i64 n].toArray 28)).alloc (.cells #[.int .u32 0, .int .i64 0] 28))
  rw [← hw0]
  clear hw0 hL
  go_cut [6, 7] (fun u6 u7 wx => ∃ g : Nat, u6 = .pointer (some ⟨g, 0, none⟩) ∧ u7 = .int .i64 xe ∧ Hid (w.heap.size + 1 < g) ∧ Hid (wx.heap[h]? = some (.cells L.cells.toArray 144)) ∧ Hid (wx.heap[w.heap.size + 1]? = some (.cells #[.int .u32 0, .int .i64 0] 28)) ∧ Hid (wx.heap[g]? = some (.cells [.int .u32 (xr : Int), .int .i64 xn].toArray 28)) ∧ Hid (w.grownBy wx (some h)))
  case first =>
    have l0 := (Array.getElem?_eq_some_iff.1 Zr).1
    have Zl : w0.drew.heap[h]? = some (.cells L.cells.toArray 144) := Zl
    have Zs : w0.drew.heap[w.heap.size]? = some (.cells [.int .u32 (r : Int), .int .i64 n].toArray 28) := Zs
    have Zr : w0.drew.heap[w.heap.size + 1]? = some (.cells #[.int .u32 0, .int .i64 0] 28) := Zr
    have ee := lgDrew ee
    refine wp_region_held_drew (S := fun z' => z'.rangeAt w.heap.size 0 [.int .u32 (r : Int), .int .i64 n] ∧ z'.rangeAt h 0 L.cells ∧ z'.rangeAt h 2 [.int .u32 (L.br : Int), .int .i64 L.bn]) (by kernel_rfl) ⟨rowAt Zs, rowAt Zl, rowMid Zl 2 (Ld.ballot L)⟩ (fun hH => ?_)
    clear hH
    generalize w0.drew = z1 at Zl Zs Zr  ee ⊢
    refine wpAnyH_take (i := 0) (v := .agg ([.int .u32 (r : Int), .int .i64 n]).toArray) rfl (by kernel_rfl) (by kernel_rfl) (by kernel_rfl) (fun _ _ _ h => h) (yieldsIf_load_mid (by rfl) 28 _ rfl (w.heap.size) 0 rfl ([.int .u32 (r : Int), .int .i64 n]) _ (fun _ h => h.1) Tryd.underlying28 rfl sizeBal) ⟨rowAt Zs, rowAt Zl, rowMid Zl 2 (Ld.ballot L)⟩ ?_
    try simp only [Act.put, List.getElem_toArray, List.getElem_cons_zero, List.getElem_cons_succ, List.setIfInBounds_toArray, List.set_cons_zero, List.set_cons_succ]
    refine wpAnyH_take (i := 1) (v := .pointer (some ⟨h, 0, none⟩)) rfl (by kernel_rfl) (by kernel_rfl) (by kernel_rfl) (fun _ _ _ h => h) (Or.inl ⟨by rfl, fun w_ hS_ => by (first | (go_simp; done) | (go_simp; rfl))⟩) ⟨rowAt Zs, rowAt Zl, rowMid Zl 2 (Ld.ballot L)⟩ ?_
    try simp only [Act.put, List.getElem_toArray, List.getElem_cons_zero, List.getElem_cons_succ, List.setIfInBounds_toArray, List.set_cons_zero, List.set_cons_succ]
    refine wpAnyH_take (i := 2) (v := .pointer (some ⟨h, 0, none⟩)) rfl (by kernel_rfl) (by kernel_rfl) (by kernel_rfl) (fun _ _ _ h => h) (Or.inl ⟨by rfl, fun w_ hS_ => by (first | (go_simp; done) | (go_simp; rfl))⟩) ⟨rowAt Zs, rowAt Zl, rowMid Zl 2 (Ld.ballot L)⟩ ?_
    try simp only [Act.put, List.getElem_toArray, List.getElem_cons_zero, List.getElem_cons_succ, List.setIfInBounds_toArray, List.set_cons_zero, List.set_cons_succ]
    refine wpAnyH_take (i := 3) (v := .pointer (some ⟨h, 2, none⟩)) rfl (by kernel_rfl) (by kernel_rfl) (by kernel_rfl) (fun _ _ _ h => h) (Or.inl ⟨by rfl, fun w_ hS_ => by (first | (go_simp; done) | (go_simp; rfl))⟩) ⟨rowAt Zs, rowAt Zl, rowMid Zl 2 (Ld.ballot L)⟩ ?_
    try simp only [Act.put, List.getElem_toArray, List.getElem_cons_zero, List.getElem_cons_succ, List.setIfInBounds_toArray, List.set_cons_zero, List.set_cons_succ]
    refine wpAnyH_take (i := 4) (v := .agg ([.int .u32 (L.br : Int), .int .i64 L.bn]).toArray) rfl (by kernel_rfl) (by kernel_rfl) (by kernel_rfl) (fun _ _ _ h => h) (yieldsIf_load_mid (by rfl) 28 _ rfl (h) (2) rfl ([.int .u32 (L.br : Int), .int .i64 L.bn]) _ (fun _ h => h.2.2) Tryd.underlying28 rfl sizeBal) ⟨rowAt Zs, rowAt Zl, rowMid Zl 2 (Ld.ballot L)⟩ ?_
    try simp only [Act.put, List.getElem_toArray, List.getElem_cons_zero, List.getElem_cons_succ, List.setIfInBounds_toArray, List.set_cons_zero, List.set_cons_succ]
    refine wpAnyH_take (i := 7) (v := .pointer (some ⟨h, 0, none⟩)) rfl (by kernel_rfl) (by kernel_rfl) (by kernel_rfl) (fun _ _ _ h => h) (Or.inl ⟨by rfl, fun w_ hS_ => by (first | (go_simp; done) | (go_simp; rfl))⟩) ⟨rowAt Zs, rowAt Zl, rowMid Zl 2 (Ld.ballot L)⟩ ?_
    try simp only [Act.put, List.getElem_toArray, List.getElem_cons_zero, List.getElem_cons_succ, List.setIfInBounds_toArray, List.set_cons_zero, List.set_cons_succ]
    refine wpAnyH_take (i := 8) (v := .pointer (some ⟨h, 0, none⟩)) rfl (by kernel_rfl) (by kernel_rfl) (by kernel_rfl) (fun _ _ _ h => h) (Or.inl ⟨by rfl, fun w_ hS_ => by (first | (go_simp; done) | (go_simp; rfl))⟩) ⟨rowAt Zs, rowAt Zl, rowMid Zl 2 (Ld.ballot L)⟩ ?_
    try simp only [Act.put, List.getElem_toArray, List.getElem_cons_zero, List.getElem_cons_succ, List.setIfInBounds_toArray, List.set_cons_zero, List.set_cons_succ]
    refine wpAnyH_take (i := 9) (v := .pointer (some ⟨h, 1, none⟩)) rfl (by kernel_rfl) (by kernel_rfl) (by kernel_rfl) (fun _ _ _ h => h) (Or.inl ⟨by rfl, fun w_ hS_ => by (first | (go_simp; done) | (go_simp; rfl))⟩) ⟨rowAt Zs, rowAt Zl, rowMid Zl 2 (Ld.ballot L)⟩ ?_
    try simp only [Act.put, List.getElem_toArray, List.getElem_cons_zero, List.getElem_cons_succ, List.setIfInBounds_toArray, List.set_cons_zero, List.set_cons_succ]
    refine wpAnyH_take (i := 10) (v := .int .i64 L.nd) rfl (by kernel_rfl) (by kernel_rfl) (by kernel_rfl) (fun _ _ _ h => h) (Or.inl ⟨by rfl, fun w_ hS_ => by (have c_ := rangeCell0 hS_.2.1 1 rfl; go_simp)⟩) ⟨rowAt Zs, rowAt Zl, rowMid Zl 2 (Ld.ballot L)⟩ ?_
    try simp only [Act.put, List.getElem_toArray, List.getElem_cons_zero, List.getElem_cons_succ, List.setIfInBounds_toArray, List.set_cons_zero, List.set_cons_succ]
    refine wpAnyH_ready (rs := [5, 15]) (by kernel_rfl) (by simp) ?_
    refine AllReadyH.cons rfl (fun K hK => ?_) (AllReadyH.cons rfl (fun K hK => ?_) AllReadyH.nil)
    · rw [if_pos (by rfl)]
      refine wp_buildSlice 183 28 2 #[(0, .tmp 12), (1, .tmp 16)] rfl [.int .u32 (r : Int), .int .i64 n, .int .u32 (L.br : Int), .int .i64 L.bn].toArray i1 (.agg #[.int .u32 0, .int .i64 0]) Tryd.underlying183 hi1 hz10 (by rw [hz11]; decide) (by rw [hz11]; decide) (by rw [hz11]; simp only [List.map_toArray, List.map_cons, List.map_nil]; exact fillB2 _ _ _ _ _ (by simp)) ?_
      have lZl := (Array.getElem?_eq_some_iff.1 Zl).1
      have lZs := (Array.getElem?_eq_some_iff.1 Zs).1
      have lZr := (Array.getElem?_eq_some_iff.1 Zr).1
      have Zl := hpA Zl (.cells [.int .u32 (r : Int), .int .i64 n, .int .u32 (L.br : Int), .int .i64 L.bn].toArray 28)
      have Zs := hpA Zs (.cells [.int .u32 (r : Int), .int .i64 n, .int .u32 (L.br : Int), .int .i64 L.bn].toArray 28)
      have Zr := hpA Zr (.cells [.int .u32 (r : Int), .int .i64 n, .int .u32 (L.br : Int), .int .i64 L.bn].toArray 28)
      have sz1 := ee.size
      have ee := lgAlloc ee (.cells [.int .u32 (r : Int), .int .i64 n, .int .u32 (L.br : Int), .int .i64 L.bn].toArray 28)
      have Zm := hpN z1 (.cells [.int .u32 (r : Int), .int .i64 n, .int .u32 (L.br : Int), .int .i64 L.bn].toArray 28) rfl
      generalize z1.alloc (.cells [.int .u32 (r : Int), .int .i64 n, .int .u32 (L.br : Int), .int .i64 L.bn].toArray 28) = z2 at Zl Zs Zr Zm  ee ⊢
      refine hK.out _ _ ⟨rowAt Zs, rowAt Zl, rowMid Zl 2 (Ld.ballot L)⟩ (fun hH => ?_)
      clear hK K hH
      try simp only [Act.put, List.getElem_toArray, List.getElem_cons_zero, List.getElem_cons_succ, List.setIfInBounds_toArray, List.set_cons_zero, List.set_cons_succ]
      refine wpAnyH_ready (rs := [6, 15]) (by kernel_rfl) (by simp) ?_
      refine AllReadyH.cons rfl (fun K hK => ?_) (AllReadyH.cons rfl (fun K hK => ?_) AllReadyH.nil)
      · rw [if_pos (by rfl)]
        go_simp
        go_wp2_with (go_at_call 79; refine (HM.out z2 _ (by have := (Array.getElem?_eq_some_iff.1 Zm).1; omega) Zm).mono ?_; rintro e z3 ⟨rfl, t⟩)
        have Zl := hpB Zl t
        have Zs := hpB Zs t
        have Zr := hpB Zr t
        have Zm := hpB Zm t
        have ee := lgBelow ee t
        clear t
        refine hK.out _ _ ⟨rowAt Zs, rowAt Zl, rowMid Zl 2 (Ld.ballot L)⟩ (fun hH => ?_)
        clear hK K hH
        try simp only [Act.put, List.getElem_toArray, List.getElem_cons_zero, List.getElem_cons_succ, List.setIfInBounds_toArray, List.set_cons_zero, List.set_cons_succ]
        refine wpAnyH_ready (rs := [11, 15]) (by kernel_rfl) (by simp) ?_
        refine AllReadyH.cons rfl (fun K hK => ?_) (AllReadyH.cons rfl (fun K hK => ?_) AllReadyH.nil)
        · rw [if_pos (by rfl)]
          go_simp
          go_wp2_with (go_at_call 78; refine (HX.out z3).mono ?_; rintro e z4 ⟨rfl, t⟩)
          have Zl := hpB Zl t
          have Zs := hpB Zs t
          have Zr := hpB Zr t
          have Zm := hpB Zm t
          have ee := lgBelow ee t
          clear t
          refine hK.out _ _ ⟨rowAt Zs, rowAt Zl, rowMid Zl 2 (Ld.ballot L)⟩ (fun hH => ?_)
          clear hK K hH
          try simp only [Act.put, List.getElem_toArray, List.getElem_cons_zero, List.getElem_cons_succ, List.setIfInBounds_toArray, List.set_cons_zero, List.set_cons_succ]
          refine wpAnyH_take (i := 12) (v := .tuple #[.agg #[.int .u32 (xr : Int), .int .i64 xn], .int .i64 xe]) rfl (by kernel_rfl) (by kernel_rfl) (by kernel_rfl) (fun _ _ _ h => h) (Or.inl ⟨by rfl, fun w_ hS_ => by (first | (go_simp; done) | (go_simp; rfl))⟩) ⟨rowAt Zs, rowAt Zl, rowMid Zl 2 (Ld.ballot L)⟩ ?_
          try simp only [Act.put, List.getElem_toArray, List.getElem_cons_zero, List.getElem_cons_succ, List.setIfInBounds_toArray, List.set_cons_zero, List.set_cons_succ]
          refine wpAnyH_take (i := 13) (v := .agg #[.int .u32 (xr : Int), .int .i64 xn]) rfl (by kernel_rfl) (by kernel_rfl) (by kernel_rfl) (fun _ _ _ h => h) (Or.inl ⟨by rfl, fun w_ hS_ => by (first | (go_simp; done) | (go_simp; rfl))⟩) ⟨rowAt Zs, rowAt Zl, rowMid Zl 2 (Ld.ballot L)⟩ ?_
          try simp only [Act.put, List.getElem_toArray, List.getElem_cons_zero, List.getElem_cons_succ, List.setIfInBounds_toArray, List.set_cons_zero, List.set_cons_succ]
          refine wpAnyH_take (i := 14) (v := .int .i64 xe) rfl (by kernel_rfl) (by kernel_rfl) (by kernel_rfl) (fun _ _ _ h => h) (Or.inl ⟨by rfl, fun w_ hS_ => by (first | (go_simp; done) | (go_simp; rfl))⟩) ⟨rowAt Zs, rowAt Zl, rowMid Zl 2 (Ld.ballot L)⟩ ?_
          try simp only [Act.put, List.getElem_toArray, List.getElem_cons_zero, List.getElem_cons_succ, List.setIfInBounds_toArray, List.set_cons_zero, List.set_cons_succ]
          refine wpAnyH_ready (rs := [15]) (by kernel_rfl) (by simp) ?_
          refine AllReadyH.cons rfl (fun K hK => ?_) AllReadyH.nil
          rw [if_pos (by rfl)]
          go_simp
          have lZl := (Array.getElem?_eq_some_iff.1 Zl).1
          have lZs := (Array.getElem?_eq_some_iff.1 Zs).1
          have lZr := (Array.getElem?_eq_some_iff.1 Zr).1
          have lZm := (Array.getElem?_eq_some_iff.1 Zm).1
          have Zl := hpA Zl (.cells #[.int .u32 0, .int .i64 0] 28)
          have Zs := hpA Zs (.cells #[.int .u32 0, .int .i64 0] 28)
          have Zr := hpA Zr (.cells #[.int .u32 0, .int .i64 0] 28)
          have Zm := hpA Zm (.cells #[.int .u32 0, .int .i64 0] 28)
          have sz4 := ee.size
          have ee := lgAlloc ee (.cells #[.int .u32 0, .int .i64 0] 28)
          have Zn := hpN z4 (.cells #[.int .u32 0, .int .i64 0] 28) rfl
          generalize z4.alloc (.cells #[.int .u32 0, .int .i64 0] 28) = z5 at Zl Zs Zr Zm Zn  ee ⊢
          refine hK.out _ _ ⟨rowAt Zs, rowAt Zl, rowMid Zl 2 (Ld.ballot L)⟩ (fun hH => ?_)
          clear hK K hH
          try simp only [Act.put, List.getElem_toArray, List.getElem_cons_zero, List.getElem_cons_succ, List.setIfInBounds_toArray, List.set_cons_zero, List.set_cons_succ]
          refine wpAnyH_ready (rs := [16]) (by kernel_rfl) (by simp) ?_
          refine AllReadyH.cons rfl (fun K hK => ?_) AllReadyH.nil
          rw [if_pos (by rfl)]
          refine wp_store_row 28 _ _ rfl (z4.heap.size) ([.int .u32 (xr : Int), .int .i64 xn]).toArray rfl rfl 28 _ Zn sizeBal (by rfl) (by simp [Value.oneCell']) ?_
          have N_ := setRow_heap z5 (z4.heap.size) _ ([.int .u32 (xr : Int), .int .i64 xn]).toArray _ _ Zn
          have ee := lgRow (cs := ([.int .u32 (xr : Int), .int .i64 xn]).toArray) (by omega) Zn ee
          have Zl := hpR Zl (g' := z4.heap.size) (by omega) ([.int .u32 (xr : Int), .int .i64 xn]).toArray
          have Zs := hpR Zs (g' := z4.heap.size) (by omega) ([.int .u32 (xr : Int), .int .i64 xn]).toArray
          have Zr := hpR Zr (g' := z4.heap.size) (by omega) ([.int .u32 (xr : Int), .int .i64 xn]).toArray
          have Zm := hpR Zm (g' := z4.heap.size) (by omega) ([.int .u32 (xr : Int), .int .i64 xn]).toArray
          clear Zn
          have Zn := N_
          clear N_
          generalize z5.setRow (z4.heap.size) ([.int .u32 (xr : Int), .int .i64 xn]).toArray = z6 at Zl Zs Zr Zm Zn ee ⊢
          refine hK.out _ _ ⟨rowAt Zs, rowAt Zl, rowMid Zl 2 (Ld.ballot L)⟩ (fun hH => ?_)
          clear hK K hH
          try simp only [Act.put, List.getElem_toArray, List.getElem_cons_zero, List.getElem_cons_succ, List.setIfInBounds_toArray, List.set_cons_zero, List.set_cons_succ]
          refine wpAnyH_take (i := 17) (v := .int .i64 xe) rfl (by kernel_rfl) (by kernel_rfl) (by kernel_rfl) (fun _ _ _ h => h) (Or.inl ⟨by rfl, fun w_ hS_ => by (first | (go_simp; done) | (go_simp; rfl))⟩) ⟨rowAt Zs, rowAt Zl, rowMid Zl 2 (Ld.ballot L)⟩ ?_
          try simp only [Act.put, List.getElem_toArray, List.getElem_cons_zero, List.getElem_cons_succ, List.setIfInBounds_toArray, List.set_cons_zero, List.set_cons_succ]
          refine wpAnyH_done (by kernel_rfl) ?_ _
          go_wp2_with fail
          go_meet
          exact ⟨_, rfl, rfl, by show _ < _; omega, Zl, Zr, Zn, ee⟩
        · rw [if_pos (by rfl)]
          go_simp
          have lZl := (Array.getElem?_eq_some_iff.1 Zl).1
          have lZs := (Array.getElem?_eq_some_iff.1 Zs).1
          have lZr := (Array.getElem?_eq_some_iff.1 Zr).1
          have lZm := (Array.getElem?_eq_some_iff.1 Zm).1
          have Zl := hpA Zl (.cells #[.int .u32 0, .int .i64 0] 28)
          have Zs := hpA Zs (.cells #[.int .u32 0, .int .i64 0] 28)
          have Zr := hpA Zr (.cells #[.int .u32 0, .int .i64 0] 28)
          have Zm := hpA Zm (.cells #[.int .u32 0, .int .i64 0] 28)
          have sz3 := ee.size
          have ee := lgAlloc ee (.cells #[.int .u32 0, .int .i64 0] 28)
          have Zn := hpN z3 (.cells #[.int .u32 0, .int .i64 0] 28) rfl
          generalize z3.alloc (.cells #[.int .u32 0, .int .i64 0] 28) = z4 at Zl Zs Zr Zm Zn  ee ⊢
          refine hK.out _ _ ⟨rowAt Zs, rowAt Zl, rowMid Zl 2 (Ld.ballot L)⟩ (fun hH => ?_)
          clear hK K hH
          try simp only [Act.put, List.getElem_toArray, List.getElem_cons_zero, List.getElem_cons_succ, List.setIfInBounds_toArray, List.set_cons_zero, List.set_cons_succ]
          refine wpAnyH_ready (rs := [11]) (by kernel_rfl) (by simp) ?_
          refine AllReadyH.cons rfl (fun K hK => ?_) AllReadyH.nil
          rw [if_pos (by rfl)]
          go_simp
          go_wp2_with (go_at_call 78; refine (HX.out z4).mono ?_; rintro e z5 ⟨rfl, t⟩)
          have Zl := hpB Zl t
          have Zs := hpB Zs t
          have Zr := hpB Zr t
          have Zm := hpB Zm t
          have Zn := hpB Zn t
          have ee := lgBelow ee t
          clear t
          refine hK.out _ _ ⟨rowAt Zs, rowAt Zl, rowMid Zl 2 (Ld.ballot L)⟩ (fun hH => ?_)
          clear hK K hH
          try simp only [Act.put, List.getElem_toArray, List.getElem_cons_zero, List.getElem_cons_succ, List.setIfInBounds_toArray, List.set_cons_zero, List.set_cons_succ]
          refine wpAnyH_take (i := 12) (v := .tuple #[.agg #[.int .u32 (xr : Int), .int .i64 xn], .int .i64 xe]) rfl (by kernel_rfl) (by kernel_rfl) (by kernel_rfl) (fun _ _ _ h => h) (Or.inl ⟨by rfl, fun w_ hS_ => by (first | (go_simp; done) | (go_simp; rfl))⟩) ⟨rowAt Zs, rowAt Zl, rowMid Zl 2 (Ld.ballot L)⟩ ?_
          try simp only [Act.put, List.getElem_toArray, List.getElem_cons_zero, List.getElem_cons_succ, List.setIfInBounds_toArray, List.set_cons_zero, List.set_cons_succ]
          refine wpAnyH_take (i := 13) (v := .agg #[.int .u32 (xr : Int), .int .i64 xn]) rfl (by kernel_rfl) (by kernel_rfl) (by kernel_rfl) (fun _ _ _ h => h) (Or.inl ⟨by rfl, fun w_ hS_ => by (first | (go_simp; done) | (go_simp; rfl))⟩) ⟨rowAt Zs, rowAt Zl, rowMid Zl 2 (Ld.ballot L)⟩ ?_
          try simp only [Act.put, List.getElem_toArray, List.getElem_cons_zero, List.getElem_cons_succ, List.setIfInBounds_toArray, List.set_cons_zero, List.set_cons_succ]
          refine wpAnyH_take (i := 14) (v := .int .i64 xe) rfl (by kernel_rfl) (by kernel_rfl) (by kernel_rfl) (fun _ _ _ h => h) (Or.inl ⟨by rfl, fun w_ hS_ => by (first | (go_simp; done) | (go_simp; rfl))⟩) ⟨rowAt Zs, rowAt Zl, rowMid Zl 2 (Ld.ballot L)⟩ ?_
          try simp only [Act.put, List.getElem_toArray, List.getElem_cons_zero, List.getElem_cons_succ, List.setIfInBounds_toArray, List.set_cons_zero, List.set_cons_succ]
          refine wpAnyH_ready (rs := [16]) (by kernel_rfl) (by simp) ?_
          refine AllReadyH.cons rfl (fun K hK => ?_) AllReadyH.nil
          rw [if_pos (by rfl)]
          refine wp_store_row 28 _ _ rfl (z3.heap.size) ([.int .u32 (xr : Int), .int .i64 xn]).toArray rfl rfl 28 _ Zn sizeBal (by rfl) (by simp [Value.oneCell']) ?_
          have N_ := setRow_heap z5 (z3.heap.size) _ ([.int .u32 (xr : Int), .int .i64 xn]).toArray _ _ Zn
          have ee := lgRow (cs := ([.int .u32 (xr : Int), .int .i64 xn]).toArray) (by omega) Zn ee
          have Zl := hpR Zl (g' := z3.heap.size) (by omega) ([.int .u32 (xr : Int), .int .i64 xn]).toArray
          have Zs := hpR Zs (g' := z3.heap.size) (by omega) ([.int .u32 (xr : Int), .int .i64 xn]).toArray
          have Zr := hpR Zr (g' := z3.heap.size) (by omega) ([.int .u32 (xr : Int), .int .i64 xn]).toArray
          have Zm := hpR Zm (g' := z3.heap.size) (by omega) ([.int .u32 (xr : Int), .int .i64 xn]).toArray
          clear Zn
          have Zn := N_
          clear N_
          generalize z5.setRow (z3.heap.size) ([.int .u32 (xr : Int), .int .i64 xn]).toArray = z6 at Zl Zs Zr Zm Zn ee ⊢
          refine hK.out _ _ ⟨rowAt Zs, rowAt Zl, rowMid Zl 2 (Ld.ballot L)⟩ (fun hH => ?_)
          clear hK K hH
          try simp only [Act.put, List.getElem_toArray, List.getElem_cons_zero, List.getElem_cons_succ, List.setIfInBounds_toArray, List.set_cons_zero, List.set_cons_succ]
          refine wpAnyH_take (i := 17) (v := .int .i64 xe) rfl (by kernel_rfl) (by kernel_rfl) (by kernel_rfl) (fun _ _ _ h => h) (Or.inl ⟨by rfl, fun w_ hS_ => by (first | (go_simp; done) | (go_simp; rfl))⟩) ⟨rowAt Zs, rowAt Zl, rowMid Zl 2 (Ld.ballot L)⟩ ?_
          try simp only [Act.put, List.getElem_toArray, List.getElem_cons_zero, List.getElem_cons_succ, List.setIfInBounds_toArray, List.set_cons_zero, List.set_cons_succ]
          refine wpAnyH_done (by kernel_rfl) ?_ _
          go_wp2_with fail
          go_meet
          exact ⟨_, rfl, rfl, by show _ < _; omega, Zl, Zr, Zn, ee⟩
      · rw [if_pos (by rfl)]
        go_simp
        have lZl := (Array.getElem?_eq_some_iff.1 Zl).1
        have lZs := (Array.getElem?_eq_some_iff.1 Zs).1
        have lZr := (Array.getElem?_eq_some_iff.1 Zr).1
        have lZm := (Array.getElem?_eq_some_iff.1 Zm).1
        have Zl := hpA Zl (.cells #[.int .u32 0, .int .i64 0] 28)
        have Zs := hpA Zs (.cells #[.int .u32 0, .int .i64 0] 28)
        have Zr := hpA Zr (.cells #[.int .u32 0, .int .i64 0] 28)
        have Zm := hpA Zm (.cells #[.int .u32 0, .int .i64 0] 28)
        have sz2 := ee.size
        have ee := lgAlloc ee (.cells #[.int .u32 0, .int .i64 0] 28)
        have Zn := hpN z2 (.cells #[.int .u32 0, .int .i64 0] 28) rfl
        generalize z2.alloc (.cells #[.int .u32 0, .int .i64 0] 28) = z3 at Zl Zs Zr Zm Zn  ee ⊢
        refine hK.out _ _ ⟨rowAt Zs, rowAt Zl, rowMid Zl 2 (Ld.ballot L)⟩ (fun hH => ?_)
        clear hK K hH
        try simp only [Act.put, List.getElem_toArray, List.getElem_cons_zero, List.getElem_cons_succ, List.setIfInBounds_toArray, List.set_cons_zero, List.set_cons_succ]
        refine wpAnyH_ready (rs := [6]) (by kernel_rfl) (by simp) ?_
        refine AllReadyH.cons rfl (fun K hK => ?_) AllReadyH.nil
        rw [if_pos (by rfl)]
        go_simp
        go_wp2_with (go_at_call 79; refine (HM.out z3 _ (by have := (Array.getElem?_eq_some_iff.1 Zm).1; omega) Zm).mono ?_; rintro e z4 ⟨rfl, t⟩)
        have Zl := hpB Zl t
        have Zs := hpB Zs t
        have Zr := hpB Zr t
        have Zm := hpB Zm t
        have Zn := hpB Zn t
        have ee := lgBelow ee t
        clear t
        refine hK.out _ _ ⟨rowAt Zs, rowAt Zl, rowMid Zl 2 (Ld.ballot L)⟩ (fun hH => ?_)
        clear hK K hH
        try simp only [Act.put, List.getElem_toArray, List.getElem_cons_zero, List.getElem_cons_succ, List.setIfInBounds_toArray, List.set_cons_zero, List.set_cons_succ]
        refine wpAnyH_ready (rs := [11]) (by kernel_rfl) (by simp) ?_
        refine AllReadyH.cons rfl (fun K hK => ?_) AllReadyH.nil
        rw [if_pos (by rfl)]
        go_simp
        go_wp2_with (go_at_call 78; refine (HX.out z4).mono ?_; rintro e z5 ⟨rfl, t⟩)
        have Zl := hpB Zl t
        have Zs := hpB Zs t
        have Zr := hpB Zr t
        have Zm := hpB Zm t
        have Zn := hpB Zn t
        have ee := lgBelow ee t
        clear t
        refine hK.out _ _ ⟨rowAt Zs, rowAt Zl, rowMid Zl 2 (Ld.ballot L)⟩ (fun hH => ?_)
        clear hK K hH
        try simp only [Act.put, List.getElem_toArray, List.getElem_cons_zero, List.getElem_cons_succ, List.setIfInBounds_toArray, List.set_cons_zero, List.set_cons_succ]
        refine wpAnyH_take (i := 12) (v := .tuple #[.agg #[.int .u32 (xr : Int), .int .i64 xn], .int .i64 xe]) rfl (by kernel_rfl) (by kernel_rfl) (by kernel_rfl) (fun _ _ _ h => h) (Or.inl ⟨by rfl, fun w_ hS_ => by (first | (go_simp; done) | (go_simp; rfl))⟩) ⟨rowAt Zs, rowAt Zl, rowMid Zl 2 (Ld.ballot L)⟩ ?_
        try simp only [Act.put, List.getElem_toArray, List.getElem_cons_zero, List.getElem_cons_succ, List.setIfInBounds_toArray, List.set_cons_zero, List.set_cons_succ]
        refine wpAnyH_take (i := 13) (v := .agg #[.int .u32 (xr : Int), .int .i64 xn]) rfl (by kernel_rfl) (by kernel_rfl) (by kernel_rfl) (fun _ _ _ h => h) (Or.inl ⟨by rfl, fun w_ hS_ => by (first | (go_simp; done) | (go_simp; rfl))⟩) ⟨rowAt Zs, rowAt Zl, rowMid Zl 2 (Ld.ballot L)⟩ ?_
        try simp only [Act.put, List.getElem_toArray, List.getElem_cons_zero, List.getElem_cons_succ, List.setIfInBounds_toArray, List.set_cons_zero, List.set_cons_succ]
        refine wpAnyH_take (i := 14) (v := .int .i64 xe) rfl (by kernel_rfl) (by kernel_rfl) (by kernel_rfl) (fun _ _ _ h => h) (Or.inl ⟨by rfl, fun w_ hS_ => by (first | (go_simp; done) | (go_simp; rfl))⟩) ⟨rowAt Zs, rowAt Zl, rowMid Zl 2 (Ld.ballot L)⟩ ?_
        try simp only [Act.put, List.getElem_toArray, List.getElem_cons_zero, List.getElem_cons_succ, List.setIfInBounds_toArray, List.set_cons_zero, List.set_cons_succ]
        refine wpAnyH_ready (rs := [16]) (by kernel_rfl) (by simp) ?_
        refine AllReadyH.cons rfl (fun K hK => ?_) AllReadyH.nil
        rw [if_pos (by rfl)]
        refine wp_store_row 28 _ _ rfl (z2.heap.size) ([.int .u32 (xr : Int), .int .i64 xn]).toArray rfl rfl 28 _ Zn sizeBal (by rfl) (by simp [Value.oneCell']) ?_
        have N_ := setRow_heap z5 (z2.heap.size) _ ([.int .u32 (xr : Int), .int .i64 xn]).toArray _ _ Zn
        have ee := lgRow (cs := ([.int .u32 (xr : Int), .int .i64 xn]).toArray) (by omega) Zn ee
        have Zl := hpR Zl (g' := z2.heap.size) (by omega) ([.int .u32 (xr : Int), .int .i64 xn]).toArray
        have Zs := hpR Zs (g' := z2.heap.size) (by omega) ([.int .u32 (xr : Int), .int .i64 xn]).toArray
        have Zr := hpR Zr (g' := z2.heap.size) (by omega) ([.int .u32 (xr : Int), .int .i64 xn]).toArray
        have Zm := hpR Zm (g' := z2.heap.size) (by omega) ([.int .u32 (xr : Int), .int .i64 xn]).toArray
        clear Zn
        have Zn := N_
        clear N_
        generalize z5.setRow (z2.heap.size) ([.int .u32 (xr : Int), .int .i64 xn]).toArray = z6 at Zl Zs Zr Zm Zn ee ⊢
        refine hK.out _ _ ⟨rowAt Zs, rowAt Zl, rowMid Zl 2 (Ld.ballot L)⟩ (fun hH => ?_)
        clear hK K hH
        try simp only [Act.put, List.getElem_toArray, List.getElem_cons_zero, List.getElem_cons_succ, List.setIfInBounds_toArray, List.set_cons_zero, List.set_cons_succ]
        refine wpAnyH_take (i := 17) (v := .int .i64 xe) rfl (by kernel_rfl) (by kernel_rfl) (by kernel_rfl) (fun _ _ _ h => h) (Or.inl ⟨by rfl, fun w_ hS_ => by (first | (go_simp; done) | (go_simp; rfl))⟩) ⟨rowAt Zs, rowAt Zl, rowMid Zl 2 (Ld.ballot L)⟩ ?_
        try simp only [Act.put, List.getElem_toArray, List.getElem_cons_zero, List.getElem_cons_succ, List.setIfInBounds_toArray, List.set_cons_zero, List.set_cons_succ]
        refine wpAnyH_done (by kernel_rfl) ?_ _
        go_wp2_with fail
        go_meet
        exact ⟨_, rfl, rfl, by show _ < _; omega, Zl, Zr, Zn, ee⟩
    · rw [if_pos (by rfl)]
      go_simp
      have lZl := (Array.getElem?_eq_some_iff.1 Zl).1
      have lZs := (Array.getElem?_eq_some_iff.1 Zs).1
      have lZr := (Array.getElem?_eq_some_iff.1 Zr).1
      have Zl := hpA Zl (.cells #[.int .u32 0, .int .i64 0] 28)
      have Zs := hpA Zs (.cells #[.int .u32 0, .int .i64 0] 28)
      have Zr := hpA Zr (.cells #[.int .u32 0, .int .i64 0] 28)
      have sz1 := ee.size
      have ee := lgAlloc ee (.cells #[.int .u32 0, .int .i64 0] 28)
      have Zn := hpN z1 (.cells #[.int .u32 0, .int .i64 0] 28) rfl
      generalize z1.alloc (.cells #[.int .u32 0, .int .i64 0] 28) = z2 at Zl Zs Zr Zn  ee ⊢
      refine hK.out _ _ ⟨rowAt Zs, rowAt Zl, rowMid Zl 2 (Ld.ballot L)⟩ (fun hH => ?_)
      clear hK K hH
      try simp only [Act.put, List.getElem_toArray, List.getElem_cons_zero, List.getElem_cons_succ, List.setIfInBounds_toArray, List.set_cons_zero, List.set_cons_succ]
      refine wpAnyH_ready (rs := [5]) (by kernel_rfl) (by simp) ?_
      refine AllReadyH.cons rfl (fun K hK => ?_) AllReadyH.nil
      rw [if_pos (by rfl)]
      refine wp_buildSlice 183 28 2 #[(0, .tmp 12), (1, .tmp 16)] rfl [.int .u32 (r : Int), .int .i64 n, .int .u32 (L.br : Int), .int .i64 L.bn].toArray i1 (.agg #[.int .u32 0, .int .i64 0]) Tryd.underlying183 hi1 hz10 (by rw [hz11]; decide) (by rw [hz11]; decide) (by rw [hz11]; simp only [List.map_toArray, List.map_cons, List.map_nil]; exact fillB2 _ _ _ _ _ (by simp)) ?_
      have lZl := (Array.getElem?_eq_some_iff.1 Zl).1
      have lZs := (Array.getElem?_eq_some_iff.1 Zs).1
      have lZr := (Array.getElem?_eq_some_iff.1 Zr).1
      have lZn := (Array.getElem?_eq_some_iff.1 Zn).1
      have Zl := hpA Zl (.cells [.int .u32 (r : Int), .int .i64 n, .int .u32 (L.br : Int), .int .i64 L.bn].toArray 28)
      have Zs := hpA Zs (.cells [.int .u32 (r : Int), .int .i64 n, .int .u32 (L.br : Int), .int .i64 L.bn].toArray 28)
      have Zr := hpA Zr (.cells [.int .u32 (r : Int), .int .i64 n, .int .u32 (L.br : Int), .int .i64 L.bn].toArray 28)
      have Zn := hpA Zn (.cells [.int .u32 (r : Int), .int .i64 n, .int .u32 (L.br : Int), .int .i64 L.bn].toArray 28)
      have sz2 := ee.size
      have ee := lgAlloc ee (.cells [.int .u32 (r : Int), .int .i64 n, .int .u32 (L.br : Int), .int .i64 L.bn].toArray 28)
      have Zm := hpN z2 (.cells [.int .u32 (r : Int), .int .i64 n, .int .u32 (L.br : Int), .int .i64 L.bn].toArray 28) rfl
      generalize z2.alloc (.cells [.int .u32 (r : Int), .int .i64 n, .int .u32 (L.br : Int), .int .i64 L.bn].toArray 28) = z3 at Zl Zs Zr Zn Zm  ee ⊢
      refine hK.out _ _ ⟨rowAt Zs, rowAt Zl, rowMid Zl 2 (Ld.ballot L)⟩ (fun hH => ?_)
      clear hK K hH
      try simp only [Act.put, List.getElem_toArray, List.getElem_cons_zero, List.getElem_cons_succ, List.setIfInBounds_toArray, List.set_cons_zero, List.set_cons_succ]
      refine wpAnyH_ready (rs := [6]) (by kernel_rfl) (by simp) ?_
      refine AllReadyH.cons rfl (fun K hK => ?_) AllReadyH.nil
      rw [if_pos (by rfl)]
      go_simp
      go_wp2_with (go_at_call 79; refine (HM.out z3 _ (by have := (Array.getElem?_eq_some_iff.1 Zm).1; omega) Zm).mono ?_; rintro e z4 ⟨rfl, t⟩)
      have Zl := hpB Zl t
      have Zs := hpB Zs t
      have Zr := hpB Zr t
      have Zn := hpB Zn t
      have Zm := hpB Zm t
      have ee := lgBelow ee t
      clear t
      refine hK.out _ _ ⟨rowAt Zs, rowAt Zl, rowMid Zl 2 (Ld.ballot L)⟩ (fun hH => ?_)
      clear hK K hH
      try simp only [Act.put, List.getElem_toArray, List.getElem_cons_zero, List.getElem_cons_succ, List.setIfInBounds_toArray, List.set_cons_zero, List.set_cons_succ]
      refine wpAnyH_ready (rs := [11]) (by kernel_rfl) (by simp) ?_
      refine AllReadyH.cons rfl (fun K hK => ?_) AllReadyH.nil
      rw [if_pos (by rfl)]
      go_simp
      go_wp2_with (go_at_call 78; refine (HX.out z4).mono ?_; rintro e z5 ⟨rfl, t⟩)
      have Zl := hpB Zl t
      have Zs := hpB Zs t
      have Zr := hpB Zr t
      have Zn := hpB Zn t
      have Zm := hpB Zm t
      have ee := lgBelow ee t
      clear t
      refine hK.out _ _ ⟨rowAt Zs, rowAt Zl, rowMid Zl 2 (Ld.ballot L)⟩ (fun hH => ?_)
      clear hK K hH
      try simp only [Act.put, List.getElem_toArray, List.getElem_cons_zero, List.getElem_cons_succ, List.setIfInBounds_toArray, List.set_cons_zero, List.set_cons_succ]
      refine wpAnyH_take (i := 12) (v := .tuple #[.agg #[.int .u32 (xr : Int), .int .i64 xn], .int .i64 xe]) rfl (by kernel_rfl) (by kernel_rfl) (by kernel_rfl) (fun _ _ _ h => h) (Or.inl ⟨by rfl, fun w_ hS_ => by (first | (go_simp; done) | (go_simp; rfl))⟩) ⟨rowAt Zs, rowAt Zl, rowMid Zl 2 (Ld.ballot L)⟩ ?_
      try simp only [Act.put, List.getElem_toArray, List.getElem_cons_zero, List.getElem_cons_succ, List.setIfInBounds_toArray, List.set_cons_zero, List.set_cons_succ]
      refine wpAnyH_take (i := 13) (v := .agg #[.int .u32 (xr : Int), .int .i64 xn]) rfl (by kernel_rfl) (by kernel_rfl) (by kernel_rfl) (fun _ _ _ h => h) (Or.inl ⟨by rfl, fun w_ hS_ => by (first | (go_simp; done) | (go_simp; rfl))⟩) ⟨rowAt Zs, rowAt Zl, rowMid Zl 2 (Ld.ballot L)⟩ ?_
      try simp only [Act.put, List.getElem_toArray, List.getElem_cons_zero, List.getElem_cons_succ, List.setIfInBounds_toArray, List.set_cons_zero, List.set_cons_succ]
      refine wpAnyH_take (i := 14) (v := .int .i64 xe) rfl (by kernel_rfl) (by kernel_rfl) (by kernel_rfl) (fun _ _ _ h => h) (Or.inl ⟨by rfl, fun w_ hS_ => by (first | (go_simp; done) | (go_simp; rfl))⟩) ⟨rowAt Zs, rowAt Zl, rowMid Zl 2 (Ld.ballot L)⟩ ?_
      try simp only [Act.put, List.getElem_toArray, List.getElem_cons_zero, List.getElem_cons_succ, List.setIfInBounds_toArray, List.set_cons_zero, List.set_cons_succ]
      refine wpAnyH_ready (rs := [16]) (by kernel_rfl) (by simp) ?_
      refine AllReadyH.cons rfl (fun K hK => ?_) AllReadyH.nil
      rw [if_pos (by rfl)]
      refine wp_store_row 28 _ _ rfl (z1.heap.size) ([.int .u32 (xr : Int), .int .i64 xn]).toArray rfl rfl 28 _ Zn sizeBal (by rfl) (by simp [Value.oneCell']) ?_
      have N_ := setRow_heap z5 (z1.heap.size) _ ([.int .u32 (xr : Int), .int .i64 xn]).toArray _ _ Zn
      have ee := lgRow (cs := ([.int .u32 (xr : Int), .int .i64 xn]).toArray) (by omega) Zn ee
      have Zl := hpR Zl (g' := z1.heap.size) (by omega) ([.int .u32 (xr : Int), .int .i64 xn]).toArray
      have Zs := hpR Zs (g' := z1.heap.size) (by omega) ([.int .u32 (xr : Int), .int .i64 xn]).toArray
      have Zr := hpR Zr (g' := z1.heap.size) (by omega) ([.int .u32 (xr : Int), .int .i64 xn]).toArray
      have Zm := hpR Zm (g' := z1.heap.size) (by omega) ([.int .u32 (xr : Int), .int .i64 xn]).toArray
      clear Zn
      have Zn := N_
      clear N_
      generalize z5.setRow (z1.heap.size) ([.int .u32 (xr : Int), .int .i64 xn]).toArray = z6 at Zl Zs Zr Zn Zm ee ⊢
      refine hK.out _ _ ⟨rowAt Zs, rowAt Zl, rowMid Zl 2 (Ld.ballot L)⟩ (fun hH => ?_)
      clear hK K hH
      try simp only [Act.put, List.getElem_toArray, List.getElem_cons_zero, List.getElem_cons_succ, List.setIfInBounds_toArray, List.set_cons_zero, List.set_cons_succ]
      refine wpAnyH_take (i := 17) (v := .int .i64 xe) rfl (by kernel_rfl) (by kernel_rfl) (by kernel_rfl) (fun _ _ _ h => h) (Or.inl ⟨by rfl, fun w_ hS_ => by (first | (go_simp; done) | (go_simp; rfl))⟩) ⟨rowAt Zs, rowAt Zl, rowMid Zl 2 (Ld.ballot L)⟩ ?_
      try simp only [Act.put, List.getElem_toArray, List.getElem_cons_zero, List.getElem_cons_succ, List.setIfInBounds_toArray, List.set_cons_zero, List.set_cons_succ]
      refine wpAnyH_done (by kernel_rfl) ?_ _
      go_wp2_with fail
      go_meet
      exact ⟨_, rfl, rfl, by show _ < _; omega, Zl, Zr, Zn, ee⟩
  case rest =>
    obtain ⟨g, rfl, rfl, hg, Zl, Zr, Zn, ee⟩ := hcut
    have hg := hg.out
    have Zl := Zl.out
    have Zr := Zr.out
    have Zn := Zn.out
    have ee := ee.out
    have nm : ∀ z : World, w.grownBy z (some h) → ∃ z', z' = z := fun z _ => ⟨z, rfl⟩
    obtain ⟨y0, hy0⟩ := nm _ ee
    subst hy0
    clear nm
    clear HM HX hi1 hz10 hz11 hz12
    by_cases hxe : xe = 0
    · subst hxe
      have HS2 : Hid (L.start r n = ⟨L.n, L.nd, xr, xn, 0, [], none, 0, 0, 0, Cm.zero, 0⟩) := HS.out
      clear HS HE
      have sz0 := ee.size
      go_upto_region 6 with fail
      have c0 := rowCell Zl 0 rfl
      have c1 := rowCell Zl 1 rfl
      have n0 := rowCell Zn 0 rfl
      have n1 := rowCell Zn 1 rfl
      go_still_tail 12, (by kernel_rfl)
      have Zl : y0.drew.heap[h]? = some (.cells L.cells.toArray 144) := Zl
      have Zr : y0.drew.heap[w.heap.size + 1]? = some (.cells #[.int .u32 0, .int .i64 0] 28) := Zr
      have Zn : y0.drew.heap[g]? = some (.cells [.int .u32 (xr : Int), .int .i64 xn].toArray 28) := Zn
      have ee := lgDrew ee
      change wpList _ _ _ _ _ y0.drew
      generalize y0.drew = z51 at Zl Zr Zn ee ⊢
      clear c0 c1 n0 n1
      iterate 27 (first | with_reducible refine isStore (ty := 144) rfl ?_ | go_step)
      refine wpList_store_row rfl 144 _ _ rfl (h) ([.int .i64 L.n, .int .i64 L.nd, .int .u32 (xr : Int), .int .i64 xn, .int .u64 0, .slice none 0 0, .int .i64 0, .int .i64 0, .int .i64 0, .int .i64 0, .int .i64 0, .slice none 0 0, .slice none 0 0, .int .i64 0, .int .i64 0, .int .i64 0, .int .u64 0, .bool false, .int .u64 0]).toArray rfl rfl 144 _ Zl sizeLd (by rfl) (by simp [Value.oneCell']) ?_
      have N_ := setRow_heap z51 (h) _ ([.int .i64 L.n, .int .i64 L.nd, .int .u32 (xr : Int), .int .i64 xn, .int .u64 0, .slice none 0 0, .int .i64 0, .int .i64 0, .int .i64 0, .int .i64 0, .int .i64 0, .slice none 0 0, .slice none 0 0, .int .i64 0, .int .i64 0, .int .i64 0, .int .u64 0, .bool false, .int .u64 0]).toArray _ _ Zl
      have ee := lgRow (cs := ([.int .i64 L.n, .int .i64 L.nd, .int .u32 (xr : Int), .int .i64 xn, .int .u64 0, .slice none 0 0, .int .i64 0, .int .i64 0, .int .i64 0, .int .i64 0, .int .i64 0, .slice none 0 0, .slice none 0 0, .int .i64 0, .int .i64 0, .int .i64 0, .int .u64 0, .bool false, .int .u64 0]).toArray) (by omega) Zl ee
      have Zr := hpR Zr (g' := h) (by omega) ([.int .i64 L.n, .int .i64 L.nd, .int .u32 (xr : Int), .int .i64 xn, .int .u64 0, .slice none 0 0, .int .i64 0, .int .i64 0, .int .i64 0, .int .i64 0, .int .i64 0, .slice none 0 0, .slice none 0 0, .int .i64 0, .int .i64 0, .int .i64 0, .int .u64 0, .bool false, .int .u64 0]).toArray
      have Zn := hpR Zn (g' := h) (by omega) ([.int .i64 L.n, .int .i64 L.nd, .int .u32 (xr : Int), .int .i64 xn, .int .u64 0, .slice none 0 0, .int .i64 0, .int .i64 0, .int .i64 0, .int .i64 0, .int .i64 0, .slice none 0 0, .slice none 0 0, .int .i64 0, .int .i64 0, .int .i64 0, .int .u64 0, .bool false, .int .u64 0]).toArray
      clear Zl
      have Zl := N_
      clear N_
      generalize z51.setRow (h) ([.int .i64 L.n, .int .i64 L.nd, .int .u32 (xr : Int), .int .i64 xn, .int .u64 0, .slice none 0 0, .int .i64 0, .int .i64 0, .int .i64 0, .int .i64 0, .int .i64 0, .slice none 0 0, .slice none 0 0, .int .i64 0, .int .i64 0, .int .i64 0, .int .u64 0, .bool false, .int .u64 0]).toArray = z52 at Zl Zr Zn ee ⊢
      go_upto_region 7 with fail
      refine wp_region_lit ?_
      iterate 27 (first | with_reducible refine isLoad (ty := 28) rfl ?_ | go_step)
      refine wpList_load_mid rfl 28 _ rfl (g) 0 rfl ([.int .u32 (xr : Int), .int .i64 xn]) _ (rowAt Zn) Tryd.underlying28 rfl sizeBal ?_
      iterate 27 (first | with_reducible refine isStore (ty := 28) rfl ?_ | go_step)
      refine wpList_store_row rfl 28 _ _ rfl (w.heap.size + 1) ([.int .u32 (xr : Int), .int .i64 xn]).toArray rfl rfl 28 _ Zr sizeBal (by rfl) (by simp [Value.oneCell']) ?_
      have N_ := setRow_heap z52 (w.heap.size + 1) _ ([.int .u32 (xr : Int), .int .i64 xn]).toArray _ _ Zr
      have ee := lgRow (cs := ([.int .u32 (xr : Int), .int .i64 xn]).toArray) (by omega) Zr ee
      have Zl := hpR Zl (g' := w.heap.size + 1) (by omega) ([.int .u32 (xr : Int), .int .i64 xn]).toArray
      have Zn := hpR Zn (g' := w.heap.size + 1) (by omega) ([.int .u32 (xr : Int), .int .i64 xn]).toArray
      clear Zr
      have Zr := N_
      clear N_
      generalize z52.setRow (w.heap.size + 1) ([.int .u32 (xr : Int), .int .i64 xn]).toArray = z53 at Zl Zr Zn ee ⊢
      go_wp2_with fail
      refine bodyPost_ret (v := .tuple #[.agg [.int .u32 (xr : Int), .int .i64 xn].toArray, .int .i64 0]) (res_ct rfl rfl rfl Zr Tryd.underlying28 rfl sizeBal) rfl ⟨rfl, ?_, ee⟩
      rw [HS2.out]
      exact Zl
    · have hxe2 : (xe != 0) = true := by simp; exact hxe
      obtain ⟨h1, h2⟩ := HE.out hxe
      subst h1; subst h2
      have HS2 : Hid (L.start r n = L) := by show _ = _; rw [HS.out, decide_eq_false hxe]; rfl
      clear HS HE hxe
      go_upto_region 5 with fail
      refine wp_region_lit ?_
      clear hxe2
      have sz0 := ee.size
      iterate 27 (first | with_reducible refine isStore (ty := 28) rfl ?_ | go_step)
      refine wpList_store_row rfl 28 _ _ rfl (w.heap.size + 1) ([.int .u32 0, .int .i64 0]).toArray rfl rfl 28 _ Zr sizeBal (by rfl) (by simp [Value.oneCell']) ?_
      have N_ := setRow_heap y0 (w.heap.size + 1) _ ([.int .u32 0, .int .i64 0]).toArray _ _ Zr
      have ee := lgRow (cs := ([.int .u32 0, .int .i64 0]).toArray) (by omega) Zr ee
      have Zl := hpR Zl (g' := w.heap.size + 1) (by omega) ([.int .u32 0, .int .i64 0]).toArray
      have Zn := hpR Zn (g' := w.heap.size + 1) (by omega) ([.int .u32 0, .int .i64 0]).toArray
      clear Zr
      have Zr := N_
      clear N_
      generalize y0.setRow (w.heap.size + 1) ([.int .u32 0, .int .i64 0]).toArray = z51 at Zl Zr Zn ee ⊢
      go_wp2_with fail
      refine bodyPost_ret (v := .tuple #[.agg [.int .u32 0, .int .i64 0].toArray, .int .i64 xe]) (res_ct rfl rfl rfl Zr Tryd.underlying28 rfl sizeBal) rfl ⟨rfl, ?_, ee⟩
      rw [HS2.out]
      exact Zl
theorem nx_first (n : Int) : (Ld.new n 0).nx 0 0 = (1, 0, 0) := by rfl
set_option maxHeartbeats 1600000 in
theorem awake19 (w : World) : Calls Tryd.prog 33 #[] w fun e w' => e = .returned (.bool true) ∧ Below w.heap.size w w' := by
  go_enter Tryd.func33, Tryd.ntmps33
  go_wp2_with fail
  refine (lnew_ok 1 0 w rfl).mono ?_
  rintro e w1 ⟨rfl, hw1⟩
  have ee : Below w.heap.size w w1 := by rw [hw1]; exact (Below.refl _ _).alloc (Nat.le_refl _) _
  have Zl : LdAt w1 w.heap.size (Ld.new 1 0) := by rw [hw1]; exact hpN _ _ rfl
  clear hw1
  have H := Lib.hid (lstart w1 w.heap.size (Ld.new 1 0) 0 0 (by omega) (by decide) Zl)
  rw [nx_first] at H
  go_wp2_with fail
  refine H.out.mono ?_
  rintro e w2 ⟨rfl, _, t⟩
  have ee := ee.grown t ee.size (fun q hq => by injection hq with hq; omega)
  clear H t Zl
  go_wp2_with fail
  go_ret
  exact ⟨rfl, by repeat first | exact ee | refine Below.setCell ?_ (by have := ee.size; simp; try omega) _ | refine Below.alloc ?_ (by have := ee.size; simp; try omega) _⟩
namespace T
/-- what is done with a leader -/
structure LOp where
  kd : Int
  nd : Int
  sl : Int
  br : Nat
  bn : Int
  own : Bool
  a : Ac
  x : Cm
def LOp.cells (o : LOp) : List Value := [.int .i64 o.kd, .int .i64 o.nd, .int .i64 o.sl, .int .u32 (o.br : Int), .int .i64 o.bn, .bool o.own] ++ (o.a.cells ++ o.x.cells)
end T
theorem LOp.cx (o : LOp) : ∀ j v, o.x.cells[j]? = some v → o.cells[22 + j]? = some v := fun j v h => by
  unfold LOp.cells
  rw [List.getElem?_append_right (by simp; omega), List.getElem?_append_right (by simp [Ac.cells_len]; omega)]
  simp only [List.length_cons, List.length_nil, Ac.cells_len]
  rw [show 22 + j - (0 + 1 + 1 + 1 + 1 + 1 + 1) - 16 = j by omega]
  exact h
theorem LOp.ca (o : LOp) : ∀ j v, o.a.cells[j]? = some v → o.cells[6 + j]? = some v := fun j v h => by
  have hj := (List.getElem?_eq_some_iff.1 h).1
  rw [Ac.cells_len] at hj
  unfold LOp.cells
  rw [List.getElem?_append_right (by simp), List.getElem?_append_left (by simp [Ac.cells_len]; omega)]
  simp only [List.length_cons, List.length_nil]
  rw [show 6 + j - (0 + 1 + 1 + 1 + 1 + 1 + 1) = j by omega]
  exact h
theorem LOp.cac (o : LOp) : ∀ j v, o.a.c.cells[j]? = some v → o.cells[12 + j]? = some v := fun j v h => by
  have := LOp.ca o (6 + j) v (Ac.part o.a j v h)
  rwa [show 6 + (6 + j) = 12 + j by omega] at this
theorem LOp.cb (o : LOp) : ∀ j v, ([.int .u32 (o.br : Int), .int .i64 o.bn] : List Value)[j]? = some v → o.cells[3 + j]? = some v := fun j v h => by
  match j, h with
  | 0, h => exact h
  | 1, h => exact h
  | j + 2, h => simp at h
theorem LOp.cells_len (o : LOp) : o.cells.length = 32 := rfl
theorem sizeLOp : (Tryd.prog.info? 99).map (·.size) = some 32 := by kernel_rfl
section
open Go.ChangeShapes Go.WideShapes Go.ChangeAt
variable {W : World} {cs : List Value} {v : Value}
theorem Cel.lop (h : Cel W 99 cs) : ∃ o : LOp, cs = o.cells ∧ CmOk W W.heap.size o.x ∧ CmOk W W.heap.size o.a.c ∧ o.br < 4294967296 := by
  have hl := h.len Tryd.underlying99
  rw [show Tryd.prog.cellsOf 99 = 32 by kernel_rfl] at hl
  match cs, hl with
  | [v0, v1, v2, v3, v4, v5, b0, b1, b2, b3, b4, b5, b6, b7, b8, b9, b10, b11, b12, b13, b14, b15, c0, c1, c2, c3, c4, c5, c6, c7, c8, c9], _ =>
    obtain ⟨kd, e0, _⟩ := (h.field1 Tryd.underlying99 0 0 3 _ rfl rfl rfl (by kernel_rfl) v0 rfl).i64 Tryd.underlying3
    obtain ⟨nd, e1, _⟩ := (h.field1 Tryd.underlying99 1 1 3 _ rfl rfl rfl (by kernel_rfl) v1 rfl).i64 Tryd.underlying3
    obtain ⟨sl, e2, _⟩ := (h.field1 Tryd.underlying99 2 2 3 _ rfl rfl rfl (by kernel_rfl) v2 rfl).i64 Tryd.underlying3
    have hp := h.field Tryd.underlying99 3 _ rfl
    rw [show Tryd.prog.cellsOf _ = 2 by kernel_rfl] at hp
    obtain ⟨own, e4⟩ := (h.field1 Tryd.underlying99 4 5 4 _ rfl rfl rfl (by kernel_rfl) v5 rfl).bool Tryd.underlying4
    have ha := h.field Tryd.underlying99 5 _ rfl
    rw [show Tryd.prog.cellsOf _ = 16 by kernel_rfl] at ha
    have hx := h.field Tryd.underlying99 6 _ rfl
    rw [show Tryd.prog.cellsOf _ = 10 by kernel_rfl] at hx
    obtain ⟨br, bn, e3, hbr, _⟩ := Cel.bal hp
    obtain ⟨a, e5, ra⟩ := Cel.ac ha
    obtain ⟨x, e6, rx⟩ := Cel.cm hx
    refine ⟨⟨kd, nd, sl, br, bn, own, a, x⟩, ?_, rx, ra, hbr⟩
    cases e0; cases e1; cases e2; cases e4
    have e3' : [v3, v4] = [.int .u32 (br : Int), .int .i64 bn] := e3
    have e5' : [b0, b1, b2, b3, b4, b5, b6, b7, b8, b9, b10, b11, b12, b13, b14, b15] = a.cells := e5
    have e6' : [c0, c1, c2, c3, c4, c5, c6, c7, c8, c9] = x.cells := e6
    show _ = [_, _, _, _, _, _] ++ (a.cells ++ x.cells)
    rw [← e5', ← e6']
    injection e3' with g1 g2
    injection g2 with g2 _
    rw [g1, g2]; rfl
theorem Arg.lop (h : Arg W 99 v) : ∃ o : LOp, v = .agg o.cells.toArray ∧ CmOk W W.heap.size o.x ∧ CmOk W W.heap.size o.a.c ∧ o.br < 4294967296 := by
  obtain ⟨⟨cs⟩, rfl, hc⟩ := h.struct Tryd.underlying99
  obtain ⟨x, hx, r⟩ := Cel.lop hc
  exact ⟨x, by rw [show cs = x.cells from hx], r⟩
end
theorem LOp.one (o : LOp) : o.cells.toArray.all (·.oneCell') = true := by simp [LOp.cells, Ac.cells, Cm.cells, Value.oneCell']
theorem cr_few (x : Cm) (w : World) (B0 : Nat) (hB : B0 ≤ w.heap.size) (ok : CmOk w B0 x) : Calls Tryd.prog 62 #[.agg x.cells.toArray] w fun e w' => (∃ r : Bool, e = .returned (.bool r)) ∧ Below w.heap.size w w' := rfew_any x.k x.s x.q x.rs x.ws x.A1 x.c1 x.A2 x.c2 x.i x.j x.g x.st x.y w B0 hB ok
end Go.Proofs.YtbahooohkigcnaaDoor

namespace Go.Proofs.YtbahooohkigcnaaDoor
set_option maxRecDepth 20001
open Go.RowKit T
set_option linter.unusedSimpArgs false
set_option linter.unusedVariables false

namespace T
def Ld.votes (L : Ld) (k : Int) (r : Nat) (n s : Int) : Bool := decide (r = L.br ∧ n = L.bn) && !decide (L.sl = 0) && decide (s = L.sl) && decide (0 ≤ k) && decide (k < L.n) && !Q.hasB L.vt k
def Ld.vote (L : Ld) (k : Int) (r : Nat) (n s : Int) : Ld := bif L.votes k r n s then { L with vt := Q.addN L.vt k } else L
def Ld.dones (L : Ld) : Bool := !decide (L.sl = 0) && Q.majB L.vt L.n
def Ld.done (L : Ld) : Ld := bif L.dones then { L with fs := L.sl + 1, sl := 0, x := Cm.zero, l := [], A := none, c := 0 } else L
end T
theorem run_neBal (r : Nat) (n : Int) (r' : Nat) (n' : Int) (w : World) :
    (binOp .neq 28 (.agg #[.int .u32 r, .int .i64 n]) (.agg #[.int .u32 r', .int .i64 n'])).run Tryd.prog w = .ok (.bool (!decide (r = r' ∧ n = n'))) w := by
  rw [run_neq_struct, show (10000 : Nat) = 9998 + 2 from rfl, B.eqBal]; rfl
section
variable (w : World) (h : Nat) (L : Ld)
set_option maxHeartbeats 1600000 in
theorem lleads (hL : LdAt w h L) (hp : L.pr < 18446744073709551616) : Calls Tryd.prog 47 #[.pointer (some ⟨h, 0, none⟩)] w fun e w' => e = .returned (.bool (Q.majB L.pr L.n)) ∧ ∃ m, w' = w.drewN m := by
  have c0 := rowCell hL 0 rfl
  have c4 := rowCell hL 4 rfl
  have HQ := Lib.hid (Ld.leads_q L.pr L.n hp w)
  clear hL hp
  go_enter Tryd.func47, Tryd.ntmps47
  go_wp2_with fail
  go_quiet ((go_at_call 82; exact HQ.out _))
  go_wp2_with fail
  go_ret
  exact ⟨rfl, _, rfl⟩
end
section
variable (w : World) (h : Nat) (L : Ld)
set_option maxHeartbeats 3200000 in
theorem ldone (hL : LdAt w h L) (hv : L.vt < 18446744073709551616) (h1 : 0 ≤ L.sl) (h2 : L.sl ≤ 1000000) : Calls Tryd.prog 39 #[.pointer (some ⟨h, 0, none⟩)] w fun e w' => e = .returned (.bool L.dones) ∧ LdAt w' h L.done ∧ w.grownBy w' (some h) := by
  have HQ := Lib.hid (Ld.leads_q L.vt L.n hv w)
  have HD : Hid (L.done = bif L.dones then { L with fs := L.sl + 1, sl := 0, x := Cm.zero, l := [], A := none, c := 0 } else L) := rfl
  have HE : Hid (L.dones = (!decide (L.sl = 0) && Q.majB L.vt L.n)) := rfl
  generalize L.done = Ln at HD ⊢
  generalize L.dones = b at HD HE ⊢
  by_cases h0 : L.sl = 0
  · have hb : b = false := by rw [HE.out, decide_eq_true h0]; rfl
    subst hb
    have hl : Ln = L := HD.out
    have c7 := rowCell hL 7 (v := .int .i64 0) (by rw [← h0]; rfl)
    have HL := Lib.hid hL
    clear hL HQ HE HD hv h0 h1 h2
    go_enter Tryd.func39, Tryd.ntmps39
    go_wp2_with fail
    go_quiet (fail)
    go_wp2_with fail
    go_ret
    rw [hl]
    exact ⟨rfl, HL.out, lgDrewN (lgRefl _ _) _⟩
  · have c7 := rowCell hL 7 rfl
    have c0 := rowCell hL 0 rfl
    have cv := rowCell hL 18 rfl
    have e7 : (L.sl == 0) = false := by simp; exact h0
    have HL := Lib.hid hL
    have kw : IntKind.i64.wrap (L.sl + 1) = L.sl + 1 := by rw [IntKind.wrap_i64]; omega
    have HE2 : Hid (b = Q.majB L.vt L.n) := by show _ = _; rw [HE.out, decide_eq_false h0]; rfl
    clear HE hv h0 h1 h2
    generalize Q.majB L.vt L.n = m at HQ HE2
    have hbm : b = m := HE2.out
    subst hbm
    clear HE2
    cases b with
    | false =>
      have hl : Ln = L := HD.out
      clear hL HD kw
      go_enter Tryd.func39, Tryd.ntmps39
      go_wp2_with fail
      go_quiet ((go_at_call 82; exact HQ.out _))
      go_wp2_with fail
      go_ret
      rw [hl]
      exact ⟨rfl, HL.out, lgDrewN (lgRefl _ _) _⟩
    | true =>
      have hl : Hid (Ln = { L with fs := L.sl + 1, sl := 0, x := Cm.zero, l := [], A := none, c := 0 }) := HD.out
      have Zl : w.heap[h]? = some (.cells L.cells.toArray 144) := hL
      have ee := lgRefl w h
      clear hL HD HL
      go_enter Tryd.func39, Tryd.ntmps39
      go_wp2_with fail
      go_quiet ((go_at_call 82; exact HQ.out _))
      clear c7 c0 cv e7
      have Zl : (w.drewN nq).heap[h]? = some (.cells L.cells.toArray 144) := Zl
      have ee := lgDrewN ee nq
      generalize w.drewN nq = z1 at Zl ee ⊢
      go_upto_region 3 with fail
      refine wp_region_lit ?_
      have c7 := rowCell Zl 7 rfl
      iterate 40 (first | with_reducible refine isStore (ty := 3) rfl ?_ | go_step)
      have f_ : z1.frozen? ⟨h, 6, none⟩ = false := freeAt Zl 6
      have c_ := rowCell Zl 6 rfl
      iterate 3 go_step
      clear f_ c_
      have N_ : (z1.setCells (h) 6 ([.int .i64 (L.sl + 1)])).heap[h]? = some (.cells ([.int .i64 L.n, .int .i64 L.nd, .int .u32 (L.br : Int), .int .i64 L.bn, .int .u64 (L.pr : Int), .slice L.A L.l.length L.c, .int .i64 (L.sl + 1), .int .i64 L.sl, .int .i64 L.x.k, .int .i64 L.x.s, .int .i64 L.x.q, .slice L.x.A1 L.x.rs.length L.x.c1, .slice L.x.A2 L.x.ws.length L.x.c2, .int .i64 L.x.i, .int .i64 L.x.j, .int .i64 L.x.g, .int .u64 (L.x.st : Int), .bool L.x.y, .int .u64 (L.vt : Int)]).toArray 144) := hpC ([.int .i64 (L.sl + 1)]) 6 _ z1 Zl
      have ee := lgCells (k := h) (by omega) ([.int .i64 (L.sl + 1)]) 6 z1 ee
      clear Zl
      have Zl := N_
      clear N_
      change wpList _ _ _ _ _ (z1.setCells (h) 6 ([.int .i64 (L.sl + 1)]))
      generalize z1.setCells (h) 6 ([.int .i64 (L.sl + 1)]) = z2 at Zl ee ⊢
      clear c7 kw
      iterate 40 (first | with_reducible refine isStore (ty := 3) rfl ?_ | go_step)
      have f_ : z2.frozen? ⟨h, 7, none⟩ = false := freeAt Zl 7
      have c_ := rowCell Zl 7 rfl
      iterate 3 go_step
      clear f_ c_
      have N_ : (z2.setCells (h) 7 ([.int .i64 0])).heap[h]? = some (.cells ([.int .i64 L.n, .int .i64 L.nd, .int .u32 (L.br : Int), .int .i64 L.bn, .int .u64 (L.pr : Int), .slice L.A L.l.length L.c, .int .i64 (L.sl + 1), .int .i64 0, .int .i64 L.x.k, .int .i64 L.x.s, .int .i64 L.x.q, .slice L.x.A1 L.x.rs.length L.x.c1, .slice L.x.A2 L.x.ws.length L.x.c2, .int .i64 L.x.i, .int .i64 L.x.j, .int .i64 L.x.g, .int .u64 (L.x.st : Int), .bool L.x.y, .int .u64 (L.vt : Int)]).toArray 144) := hpC ([.int .i64 0]) 7 _ z2 Zl
      have ee := lgCells (k := h) (by omega) ([.int .i64 0]) 7 z2 ee
      clear Zl
      have Zl := N_
      clear N_
      change wpList _ _ _ _ _ (z2.setCells (h) 7 ([.int .i64 0]))
      generalize z2.setCells (h) 7 ([.int .i64 0]) = z3 at Zl ee ⊢
      iterate 40 (first | with_reducible refine isStore (ty := 37) rfl ?_ | go_step)
      refine wpList_store_mid rfl 37 _ _ rfl (h) 8 (Cm.zero.cells).toArray rfl rfl (rowThere Zl (by simp [T.Ld.cells, T.Cm.cells])) sizeCm (Cm.one _) ?_
      have N_ : (z3.setCells (h) 8 (Cm.zero.cells)).heap[h]? = some (.cells ([.int .i64 L.n, .int .i64 L.nd, .int .u32 (L.br : Int), .int .i64 L.bn, .int .u64 (L.pr : Int), .slice L.A L.l.length L.c, .int .i64 (L.sl + 1), .int .i64 0, .int .i64 0, .int .i64 0, .int .i64 0, .slice none 0 0, .slice none 0 0, .int .i64 0, .int .i64 0, .int .i64 0, .int .u64 0, .bool false, .int .u64 (L.vt : Int)]).toArray 144) := hpC (Cm.zero.cells) 8 _ z3 Zl
      have ee := lgCells (k := h) (by omega) (Cm.zero.cells) 8 z3 ee
      clear Zl
      have Zl := N_
      clear N_
      change wpList _ _ _ _ _ (z3.setCells (h) 8 (Cm.zero.cells))
      generalize z3.setCells (h) 8 (Cm.zero.cells) = z4 at Zl ee ⊢
      iterate 40 (first | with_reducible refine isStore (ty := 22) rfl ?_ | go_step)
      have f_ : z4.frozen? ⟨h, 5, none⟩ = false := freeAt Zl 5
      have c_ := rowCell Zl 5 rfl
      iterate 3 go_step
      clear f_ c_
      have N_ : (z4.setCells (h) 5 ([.slice none 0 0])).heap[h]? = some (.cells ([.int .i64 L.n, .int .i64 L.nd, .int .u32 (L.br : Int), .int .i64 L.bn, .int .u64 (L.pr : Int), .slice none 0 0, .int .i64 (L.sl + 1), .int .i64 0, .int .i64 0, .int .i64 0, .int .i64 0, .slice none 0 0, .slice none 0 0, .int .i64 0, .int .i64 0, .int .i64 0, .int .u64 0, .bool false, .int .u64 (L.vt : Int)]).toArray 144) := hpC ([.slice none 0 0]) 5 _ z4 Zl
      have ee := lgCells (k := h) (by omega) ([.slice none 0 0]) 5 z4 ee
      clear Zl
      have Zl := N_
      clear N_
      change wpList _ _ _ _ _ (z4.setCells (h) 5 ([.slice none 0 0]))
      generalize z4.setCells (h) 5 ([.slice none 0 0]) = z5 at Zl ee ⊢
      go_wp2_with fail
      go_ret
      rw [hl.out]
      exact ⟨rfl, Zl, ee⟩
end
section
variable (w : World) (h : Nat) (L : Ld) (k : Int) (r : Nat) (n s : Int)
set_option maxHeartbeats 6400000 in
theorem lvote_no (hL : LdAt w h L) (hv : L.vt < 18446744073709551616) (hf : L.votes k r n s = false) : Calls Tryd.prog 38 #[.pointer (some ⟨h, 0, none⟩), .int .i64 k, bal r n, .int .i64 s] w fun e w' => e = .returned (.bool false) ∧ Below w.heap.size w w' := by
  have hlt : h < w.heap.size := (Array.getElem?_eq_some_iff.1 hL).1
  have HQ := Lib.hid (fun z => Ld.has_q L.vt k hv z)
  have hI := run_neBal r n L.br L.bn
  have HF : Hid ((decide (r = L.br ∧ n = L.bn) && !decide (L.sl = 0) && decide (s = L.sl) && decide (0 ≤ k) && decide (k < L.n) && !Q.hasB L.vt k) = false) := hf
  obtain ⟨w0, hw0⟩ : ∃ w0, w0 = w.alloc (.cells [.int .u32 (r : Int), .int .i64 n].toArray 28) := ⟨_, rfl⟩
  have ee : Below w.heap.size w w0 := by rw [hw0]; exact (Below.refl _ _).alloc (Nat.le_refl _) _
  have Zl : w0.heap[h]? = some (.cells L.cells.toArray 144) := by rw [hw0]; exact hpA hL _
  have Zb : w0.heap[w.heap.size]? = some (.cells [.int .u32 (r : Int), .int .i64 n].toArray 28) := by rw [hw0]; exact hpN _ _ rfl
  have c0 := rowCell Zl 0 rfl
  have c2 := rowCell Zl 2 rfl
  have c3 := rowCell Zl 3 rfl
  have c7 := rowCell Zl 7 rfl
  have cv := rowCell Zl 18 rfl
  have b0 := rowCell Zb 0 rfl
  have b1 := rowCell Zb 1 rfl
  have HQ := Lib.hid (HQ.out w0)
  clear hL hv hf Zl Zb hlt
  go_enter Tryd.func38, Tryd.ntmps38
  go_upto_region 1 with fail
  change Code.wp _ _ _ _ (w.alloc (.cells [.int .u32 (r : Int), .int .i64 n].toArray 28))
  rw [← hw0]
  clear hw0
  by_cases h1 : r = L.br ∧ n = L.bn
  · rw [decide_eq_true h1] at hI
    by_cases h2 : L.sl = 0
    · rw [h2] at c7
      clear HQ HF h1
      go_quiet (fail)
      go_wp2_with fail
      go_ret
      exact ⟨rfl, belowDrewN ee _⟩
    · have e2 : (L.sl == 0) = false := by simp; exact h2
      by_cases h3 : s = L.sl
      · have e3 : (s != L.sl) = false := by simp; exact h3
        by_cases h4 : 0 ≤ k
        · have e4 : decide (k < 0) = false := decide_eq_false (by omega)
          by_cases h5 : k < L.n
          · have e5 : decide (L.n ≤ k) = false := decide_eq_false (by omega)
            have h6 : Q.hasB L.vt k = true := by
              have := HF.out
              simpa [h1, h2, h3, h4, h5] using this
            rw [h6] at HQ
            clear HF h1 h2 h3 h4 h5 h6
            go_quiet ((go_at_call 80; exact HQ.out _))
            go_wp2_with fail
            go_ret
            exact ⟨rfl, belowDrewN ee _⟩
          · have e5 : decide (L.n ≤ k) = true := decide_eq_true (by omega)
            clear HQ HF h1 h2 h3 h4 h5
            go_quiet (fail)
            go_wp2_with fail
            go_ret
            exact ⟨rfl, belowDrewN ee _⟩
        · have e4 : decide (k < 0) = true := decide_eq_true (by omega)
          clear HQ HF h1 h2 h3 h4
          go_quiet (fail)
          go_wp2_with fail
          go_ret
          exact ⟨rfl, belowDrewN ee _⟩
      · have e3 : (s != L.sl) = true := by simp; exact h3
        clear HQ HF h1 h2 h3
        go_quiet (fail)
        go_wp2_with fail
        go_ret
        exact ⟨rfl, belowDrewN ee _⟩
  · rw [decide_eq_false h1] at hI
    clear HQ HF h1
    go_quiet (fail)
    go_wp2_with fail
    go_ret
    exact ⟨rfl, belowDrewN ee _⟩
set_option maxHeartbeats 6400000 in
theorem lvote_yes (hL : LdAt w h L) (hv : L.vt < 18446744073709551616) (hf : L.votes k r n s = true) : Calls Tryd.prog 38 #[.pointer (some ⟨h, 0, none⟩), .int .i64 k, bal r n, .int .i64 s] w fun e w' => e = .returned (.bool (!Q.majB L.vt L.n && Q.majB (Q.addN L.vt k) L.n)) ∧ LdAt w' h (L.vote k r n s) ∧ w.grownBy w' (some h) := by
  have hlt : h < w.heap.size := (Array.getElem?_eq_some_iff.1 hL).1
  have HQ := Lib.hid (fun z => Ld.has_q L.vt k hv z)
  have HM := Lib.hid (fun z => Ld.leads_q L.vt L.n hv z)
  have HM2 := Lib.hid (fun z => Ld.leads_q (Q.addN L.vt k) L.n (Q.add_lt _ _ hv) z)
  have HA := Lib.hid (fun z => add_any L.vt k z hv)
  have hI := run_neBal r n L.br L.bn
  have HS : Hid (L.vote k r n s = { L with vt := Q.addN L.vt k }) := by show _ = _; unfold Ld.vote; rw [hf]; rfl
  obtain ⟨⟨⟨⟨⟨h1, h2⟩, h3⟩, h4⟩, h5⟩, h6⟩ : ((((decide (r = L.br ∧ n = L.bn) = true ∧ (!decide (L.sl = 0)) = true) ∧ decide (s = L.sl) = true) ∧ decide (0 ≤ k) = true) ∧ decide (k < L.n) = true) ∧ (!Q.hasB L.vt k) = true := by
    simpa only [Ld.votes, Bool.and_eq_true] using hf
  rw [h1] at hI
  rw [Bool.not_eq_true'] at h2 h6
  rw [h6] at HQ
  have e2 : (L.sl == 0) = false := by have := of_decide_eq_false h2; simp; exact this
  have e3 : (s != L.sl) = false := by have := of_decide_eq_true h3; simp; exact this
  have e4 : decide (k < 0) = false := decide_eq_false (by have := of_decide_eq_true h4; omega)
  have e5 : decide (L.n ≤ k) = false := decide_eq_false (by have := of_decide_eq_true h5; omega)
  clear h1 h2 h3 h4 h5 h6 hf hv
  generalize L.vote k r n s = Ln at HS ⊢
  obtain ⟨R, hR⟩ : ∃ R, R = (!Q.majB L.vt L.n && Q.majB (Q.addN L.vt k) L.n) := ⟨_, rfl⟩
  rw [← hR]
  have HR := Lib.hid hR
  clear hR
  obtain ⟨w0, hw0⟩ : ∃ w0, w0 = w.alloc (.cells [.int .u32 (r : Int), .int .i64 n].toArray 28) := ⟨_, rfl⟩
  have ee : w.grownBy w0 (some h) := by rw [hw0]; exact lgAlloc (lgRefl _ _) _
  have Zl : w0.heap[h]? = some (.cells L.cells.toArray 144) := by rw [hw0]; exact hpA hL _
  have Zb : w0.heap[w.heap.size]? = some (.cells [.int .u32 (r : Int), .int .i64 n].toArray 28) := by rw [hw0]; exact hpN _ _ rfl
  have c0 := rowCell Zl 0 rfl
  have c2 := rowCell Zl 2 rfl
  have c3 := rowCell Zl 3 rfl
  have c7 := rowCell Zl 7 rfl
  have cv := rowCell Zl 18 rfl
  have b0 := rowCell Zb 0 rfl
  have b1 := rowCell Zb 1 rfl
  have HQ := Lib.hid (HQ.out w0)
  clear hL hlt Zb
  go_enter Tryd.func38, Tryd.ntmps38
  go_upto_region 1 with fail
  change Code.wp _ _ _ _ (w.alloc (.cells [.int .u32 (r : Int), .int .i64 n].toArray 28))
  rw [← hw0]
  clear hw0
  go_quiet ((go_at_call 80; exact HQ.out _))
  clear c0 c2 c3 c7 cv b0 b1 hI e2 e3 e4 e5 HQ
  have Zl : (w0.drewN nq).heap[h]? = some (.cells L.cells.toArray 144) := Zl
  have ee := lgDrewN ee nq
  generalize w0.drewN nq = z1 at Zl ee ⊢
  go_upto_region 3 with fail
  have c0 := rowCell Zl 0 rfl
  have cv := rowCell Zl 18 rfl
  have HM := Lib.hid (HM.out z1)
  generalize Q.majB L.vt L.n = m1 at HM HR ⊢
  go_quiet ((go_at_call 82; exact HM.out _))
  clear c0 cv HM
  have Zl : (z1.drewN nq).heap[h]? = some (.cells L.cells.toArray 144) := Zl
  have ee := lgDrewN ee nq
  generalize z1.drewN nq = z2 at Zl ee ⊢
  go_upto_region 4 with fail
  refine wp_region_lit ?_
  have cv := rowCell Zl 18 rfl
  go_wp2_with fail
  refine (HA.out z2).mono ?_
  rintro e z3 ⟨rfl, hw_⟩
  rw [← hw_]
  clear hw_ z3 HA cv
  dsimp only
  rename_i hK
  refine hK _ _ ?_
  clear hK
  iterate 40 (first | with_reducible refine isStore (ty := 35) rfl ?_ | go_step)
  have f_ : z2.frozen? ⟨h, 18, none⟩ = false := freeAt Zl 18
  have c_ := rowCell Zl 18 rfl
  iterate 3 go_step
  clear f_ c_
  have N_ : (z2.setCells (h) 18 ([.int .u64 (Q.addN L.vt k : Int)])).heap[h]? = some (.cells ([.int .i64 L.n, .int .i64 L.nd, .int .u32 (L.br : Int), .int .i64 L.bn, .int .u64 (L.pr : Int), .slice L.A L.l.length L.c, .int .i64 L.fs, .int .i64 L.sl, .int .i64 L.x.k, .int .i64 L.x.s, .int .i64 L.x.q, .slice L.x.A1 L.x.rs.length L.x.c1, .slice L.x.A2 L.x.ws.length L.x.c2, .int .i64 L.x.i, .int .i64 L.x.j, .int .i64 L.x.g, .int .u64 (L.x.st : Int), .bool L.x.y, .int .u64 (Q.addN L.vt k : Int)]).toArray 144) := hpC ([.int .u64 (Q.addN L.vt k : Int)]) 18 _ z2 Zl
  have ee := lgCells (k := h) (by omega) ([.int .u64 (Q.addN L.vt k : Int)]) 18 z2 ee
  clear Zl
  have Zl := N_
  clear N_
  change wpList _ _ _ _ _ (z2.setCells (h) 18 ([.int .u64 (Q.addN L.vt k : Int)]))
  generalize z2.setCells (h) 18 ([.int .u64 (Q.addN L.vt k : Int)]) = z4 at Zl ee ⊢
  generalize Q.addN L.vt k = vt2 at HM2 HS HR Zl ⊢
  cases m1 with
  | true =>
    go_upto_region 5 with fail
    go_quiet (fail)
    go_wp2_with fail
    go_ret
    rw [HS.out, HR.out]
    exact ⟨rfl, Zl, lgDrewN ee _⟩
  | false =>
    go_upto_region 5 with fail
    have c0 := rowCell Zl 0 rfl
    have cv := rowCell Zl 18 rfl
    have HM := Lib.hid (HM2.out z4)
    go_quiet ((go_at_call 82; exact HM.out _))
    go_wp2_with fail
    go_ret
    rw [HS.out, HR.out]
    exact ⟨rfl, Zl, lgDrewN ee _⟩
end
end Go.Proofs.YtbahooohkigcnaaDoor
