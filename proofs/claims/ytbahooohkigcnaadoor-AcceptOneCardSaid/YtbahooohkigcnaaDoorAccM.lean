/- Commands and acceptors as one value each, the contracts in these words, and the plain law of a step. Conditions: what lies, lies below; the tables lie. (Printed by gen_accm.py.) -/
import Derived.Test.YtbahooohkigcnaaDoorAccD
import Derived.Test.YtbahooohkigcnaaDoorAccS
import Derived.Test.YtbahooohkigcnaaDoorAccE
import Derived.Test.YtbahooohkigcnaaDoorAccF
namespace Go.Proofs.YtbahooohkigcnaaDoor
set_option maxRecDepth 20000
open Go.RowKit T
set_option linter.unusedSimpArgs false
set_option linter.unusedVariables false

namespace T
def Ac.formed (a : Ac) : Bool := T.aformed a.pr a.pn a.sl a.ha a.vr a.vn a.c.k a.c.s a.c.q a.c.rs a.c.ws a.c.i a.c.j a.c.g a.c.st a.c.y
def Ac.may (a : Ac) (br : Nat) (bn : Int) : Bool := T.may a.pr a.pn a.sl a.ha a.vr a.vn a.c.k a.c.s a.c.q a.c.rs a.c.ws a.c.i a.c.j a.c.g a.c.st a.c.y br bn
def Ac.learns (a : Ac) (sn : Int) : Bool := T.learns a.pr a.pn a.sl a.ha a.vr a.vn a.c.k a.c.s a.c.q a.c.rs a.c.ws a.c.i a.c.j a.c.g a.c.st a.c.y sn
/-- a promise -/
def Ac.prep (a : Ac) (br : Nat) (bn : Int) : Ac := bif a.may br bn then ⟨br, bn, a.sl, a.ha, a.vr, a.vn, a.c⟩ else a
/-- a vote -/
def Ac.how (a : Ac) (br : Nat) (bn sn : Int) (x : Cm) : Int := bif a.may br bn && x.formed then (bif decide (sn < a.sl) then 1 else (bif decide (a.sl < sn) then 2 else 3)) else 0
def Ac.vote (a : Ac) (br : Nat) (bn sn : Int) (x : Cm) : Ac := bif decide (a.how br bn sn x = 3) then ⟨br, bn, sn, true, br, bn, x⟩ else a
def Ac.learn (a : Ac) (sn : Int) : Ac := bif a.learns sn then ⟨a.pr, a.pn, sn + 1, false, 0, 0, Cm.zero⟩ else a
end T
def SameA (a b : Ac) : Bool := T.asame a.pr a.pn a.sl a.ha a.vr a.vn b.pr b.pn b.sl b.ha b.vr b.vn (SameC a.c b.c)
theorem SameA.refl (a : Ac) : SameA a a = true := by unfold SameA; rw [SameC.refl]; simp [T.asame]
theorem c_formed (a : Ac) (w : World) (B0 : Nat) (hB : B0 ≤ w.heap.size) (ok : CmOk w B0 a.c) (hT : Tabs w) :
    Calls Tryd.prog 20 #[.agg a.cells.toArray] w fun e w' => e = .returned (.bool a.formed) ∧ Below w.heap.size w w' := aformed_any a.pr a.pn a.sl a.ha a.vr a.vn a.c.k a.c.s a.c.q a.c.rs a.c.ws a.c.A1 a.c.c1 a.c.A2 a.c.c2 a.c.i a.c.j a.c.g a.c.st a.c.y w B0 hB ok hT
theorem cr_formed (a : Ac) (w : World) (B0 : Nat) (hB : B0 ≤ w.heap.size) (ok : CmOk w B0 a.c) :
    Calls Tryd.prog 21 #[.agg a.cells.toArray] w fun e w' => e = .returned (.bool a.formed) ∧ Below w.heap.size w w' := raformed_any a.pr a.pn a.sl a.ha a.vr a.vn a.c.k a.c.s a.c.q a.c.rs a.c.ws a.c.A1 a.c.c1 a.c.A2 a.c.c2 a.c.i a.c.j a.c.g a.c.st a.c.y w B0 hB ok
theorem c_cformed (x : Cm) (w : World) (B0 : Nat) (hB : B0 ≤ w.heap.size) (ok : CmOk w B0 x) (hT : Tabs w) :
    Calls Tryd.prog 28 #[.agg x.cells.toArray] w fun e w' => e = .returned (.bool x.formed) ∧ Below w.heap.size w w' := cformed_any x.k x.s x.q x.rs x.ws x.A1 x.c1 x.A2 x.c2 x.i x.j x.g x.st x.y w B0 hB ok hT
theorem cr_cformed (x : Cm) (w : World) (B0 : Nat) (hB : B0 ≤ w.heap.size) (ok : CmOk w B0 x) :
    Calls Tryd.prog 29 #[.agg x.cells.toArray] w fun e w' => e = .returned (.bool x.formed) ∧ Below w.heap.size w w' := rcformed_any x.k x.s x.q x.rs x.ws x.A1 x.c1 x.A2 x.c2 x.i x.j x.g x.st x.y w B0 hB ok
theorem cr_csame (x y : Cm) (w : World) (B0 : Nat) (hB : B0 ≤ w.heap.size) (ok : CmOk w B0 x) (ok' : CmOk w B0 y) :
    Calls Tryd.prog 17 #[.agg x.cells.toArray, .agg y.cells.toArray] w fun e w' => e = .returned (.bool (SameC x y)) ∧ Below w.heap.size w w' := rcsame_any x.k x.s x.q x.rs x.ws x.A1 x.c1 x.A2 x.c2 x.i x.j x.g x.st x.y y.k y.s y.q y.rs y.ws y.A1 y.c1 y.A2 y.c2 y.i y.j y.g y.st y.y w B0 hB ok ok'
theorem cr_same (a b : Ac) (w : World) (B0 : Nat) (hB : B0 ≤ w.heap.size) (ok : CmOk w B0 a.c) (ok' : CmOk w B0 b.c) :
    Calls Tryd.prog 19 #[.agg a.cells.toArray, .agg b.cells.toArray] w fun e w' => e = .returned (.bool (SameA a b)) ∧ Below w.heap.size w w' := rasame_any a.pr a.pn a.sl a.ha a.vr a.vn a.c.k a.c.s a.c.q a.c.rs a.c.ws a.c.A1 a.c.c1 a.c.A2 a.c.c2 a.c.i a.c.j a.c.g a.c.st a.c.y b.pr b.pn b.sl b.ha b.vr b.vn b.c.k b.c.s b.c.q b.c.rs b.c.ws b.c.A1 b.c.c1 b.c.A2 b.c.c2 b.c.i b.c.j b.c.g b.c.st b.c.y w B0 hB ok ok'
theorem c_plain (a : Ac) (w : World) : Calls Tryd.prog 14 #[.agg a.cells.toArray] w fun e w' => e = .returned (.agg a.cells.toArray) ∧ Below w.heap.size w w' := aplain_any a.pr a.pn a.sl a.ha a.vr a.vn a.c.k a.c.s a.c.q a.c.rs a.c.ws a.c.A1 a.c.c1 a.c.A2 a.c.c2 a.c.i a.c.j a.c.g a.c.st a.c.y w
theorem c_few (x : Cm) (w : World) (B0 : Nat) (hB : B0 ≤ w.heap.size) (ok : CmOk w B0 x) : Calls Tryd.prog 13 #[.agg x.cells.toArray] w fun e w' => (∃ r : Bool, e = .returned (.bool r)) ∧ Below w.heap.size w w' := a18_few x.k x.s x.q x.rs x.ws x.A1 x.c1 x.A2 x.c2 x.i x.j x.g x.st x.y w B0 hB ok
theorem c_new (w : World) : Calls Tryd.prog 22 #[] w fun e w' => e = .returned (.agg Ac.new.cells.toArray) ∧ Below w.heap.size w w' := anew_any w
theorem c_prep (a : Ac) (br : Nat) (bn : Int) (w : World) (B0 : Nat) (hB : B0 ≤ w.heap.size) (ok : CmOk w B0 a.c) (hT : Tabs w) :
    Calls Tryd.prog 65 #[.agg a.cells.toArray, .agg #[.int .u32 (br : Int), .int .i64 bn]] w fun e w' => e = .returned (.tuple #[.agg (a.prep br bn).cells.toArray, .bool (a.may br bn)]) ∧ Below w.heap.size w w' := by
  cases hm : a.may br bn with
  | false =>
    have := prep_no a.pr a.pn a.sl a.ha a.vr a.vn a.c.k a.c.s a.c.q a.c.rs a.c.ws a.c.A1 a.c.c1 a.c.A2 a.c.c2 a.c.i a.c.j a.c.g a.c.st a.c.y br bn w B0 hB ok hT hm
    exact this.mono fun e w' h => ⟨by rw [h.1]; simp only [Ac.prep, hm, cond_false]; rfl, h.2⟩
  | true =>
    have := prep_yes a.pr a.pn a.sl a.ha a.vr a.vn a.c.k a.c.s a.c.q a.c.rs a.c.ws a.c.A1 a.c.c1 a.c.A2 a.c.c2 a.c.i a.c.j a.c.g a.c.st a.c.y br bn w B0 hB ok hT hm
    exact this.mono fun e w' h => ⟨by rw [h.1]; simp only [Ac.prep, hm, cond_true]; rfl, h.2⟩
theorem cr_prep (a : Ac) (br : Nat) (bn : Int) (w : World) (B0 : Nat) (hB : B0 ≤ w.heap.size) (ok : CmOk w B0 a.c) :
    Calls Tryd.prog 66 #[.agg a.cells.toArray, .agg #[.int .u32 (br : Int), .int .i64 bn]] w fun e w' => e = .returned (.tuple #[.agg (a.prep br bn).cells.toArray, .bool (a.may br bn)]) ∧ Below w.heap.size w w' := by
  cases hm : a.may br bn with
  | false =>
    have := rprep_no a.pr a.pn a.sl a.ha a.vr a.vn a.c.k a.c.s a.c.q a.c.rs a.c.ws a.c.A1 a.c.c1 a.c.A2 a.c.c2 a.c.i a.c.j a.c.g a.c.st a.c.y br bn w B0 hB ok hm
    exact this.mono fun e w' h => ⟨by rw [h.1]; simp only [Ac.prep, hm, cond_false]; rfl, h.2⟩
  | true =>
    have := rprep_yes a.pr a.pn a.sl a.ha a.vr a.vn a.c.k a.c.s a.c.q a.c.rs a.c.ws a.c.A1 a.c.c1 a.c.A2 a.c.c2 a.c.i a.c.j a.c.g a.c.st a.c.y br bn w B0 hB ok hm
    exact this.mono fun e w' h => ⟨by rw [h.1]; simp only [Ac.prep, hm, cond_true]; rfl, h.2⟩
theorem c_learn (a : Ac) (sn : Int) (w : World) (B0 : Nat) (hB : B0 ≤ w.heap.size) (ok : CmOk w B0 a.c) (hT : Tabs w) :
    Calls Tryd.prog 68 #[.agg a.cells.toArray, .int .i64 sn] w fun e w' => e = .returned (.tuple #[.agg (a.learn sn).cells.toArray, .bool (a.learns sn)]) ∧ Below w.heap.size w w' := by
  cases hm : a.learns sn with
  | false =>
    have := learn_no a.pr a.pn a.sl a.ha a.vr a.vn a.c.k a.c.s a.c.q a.c.rs a.c.ws a.c.A1 a.c.c1 a.c.A2 a.c.c2 a.c.i a.c.j a.c.g a.c.st a.c.y sn w B0 hB ok hT hm
    exact this.mono fun e w' h => ⟨by rw [h.1]; simp only [Ac.learn, hm, cond_false]; rfl, h.2⟩
  | true =>
    have := learn_yes a.pr a.pn a.sl a.ha a.vr a.vn a.c.k a.c.s a.c.q a.c.rs a.c.ws a.c.A1 a.c.c1 a.c.A2 a.c.c2 a.c.i a.c.j a.c.g a.c.st a.c.y sn w B0 hB ok hT hm
    exact this.mono fun e w' h => ⟨by rw [h.1]; simp only [Ac.learn, hm, cond_true]; rfl, h.2⟩
theorem cr_learn (a : Ac) (sn : Int) (w : World) (B0 : Nat) (hB : B0 ≤ w.heap.size) (ok : CmOk w B0 a.c) :
    Calls Tryd.prog 69 #[.agg a.cells.toArray, .int .i64 sn] w fun e w' => e = .returned (.tuple #[.agg (a.learn sn).cells.toArray, .bool (a.learns sn)]) ∧ Below w.heap.size w w' := by
  cases hm : a.learns sn with
  | false =>
    have := rlearn_no a.pr a.pn a.sl a.ha a.vr a.vn a.c.k a.c.s a.c.q a.c.rs a.c.ws a.c.A1 a.c.c1 a.c.A2 a.c.c2 a.c.i a.c.j a.c.g a.c.st a.c.y sn w B0 hB ok hm
    exact this.mono fun e w' h => ⟨by rw [h.1]; simp only [Ac.learn, hm, cond_false]; rfl, h.2⟩
  | true =>
    have := rlearn_yes a.pr a.pn a.sl a.ha a.vr a.vn a.c.k a.c.s a.c.q a.c.rs a.c.ws a.c.A1 a.c.c1 a.c.A2 a.c.c2 a.c.i a.c.j a.c.g a.c.st a.c.y sn w B0 hB ok hm
    exact this.mono fun e w' h => ⟨by rw [h.1]; simp only [Ac.learn, hm, cond_true]; rfl, h.2⟩
theorem cr_vote (a : Ac) (br : Nat) (bn sn : Int) (x : Cm) (w : World) (B0 : Nat) (hB : B0 ≤ w.heap.size) (ok : CmOk w B0 a.c) (okx : CmOk w B0 x) :
    Calls Tryd.prog 67 #[.agg a.cells.toArray, .agg #[.int .u32 (br : Int), .int .i64 bn], .int .i64 sn, .agg x.cells.toArray] w fun e w' => e = .returned (.tuple #[.agg (a.vote br bn sn x).cells.toArray, .int .i64 (a.how br bn sn x)]) ∧ Below w.heap.size w w' := by
  cases hm : (a.may br bn && x.formed) with
  | false =>
    have hh : a.how br bn sn x = 0 := by unfold Ac.how; rw [hm]; rfl
    have := raccept_0 a.pr a.pn a.sl a.ha a.vr a.vn a.c.k a.c.s a.c.q a.c.rs a.c.ws a.c.A1 a.c.c1 a.c.A2 a.c.c2 a.c.i a.c.j a.c.g a.c.st a.c.y br bn sn x.k x.s x.q x.rs x.ws x.A1 x.c1 x.A2 x.c2 x.i x.j x.g x.st x.y w B0 hB ok okx hm
    exact this.mono fun e w' h => ⟨by rw [h.1]; simp only [Ac.vote, hh]; rfl, h.2⟩
  | true =>
    by_cases h1 : sn < a.sl
    · have hh : a.how br bn sn x = 1 := by unfold Ac.how; rw [hm, decide_eq_true h1]; rfl
      have := raccept_1 a.pr a.pn a.sl a.ha a.vr a.vn a.c.k a.c.s a.c.q a.c.rs a.c.ws a.c.A1 a.c.c1 a.c.A2 a.c.c2 a.c.i a.c.j a.c.g a.c.st a.c.y br bn sn x.k x.s x.q x.rs x.ws x.A1 x.c1 x.A2 x.c2 x.i x.j x.g x.st x.y w B0 hB ok okx hm h1
      exact this.mono fun e w' h => ⟨by rw [h.1]; simp only [Ac.vote, hh]; rfl, h.2⟩
    · by_cases h2 : a.sl < sn
      · have hh : a.how br bn sn x = 2 := by unfold Ac.how; rw [hm, decide_eq_false h1, decide_eq_true h2]; rfl
        have := raccept_2 a.pr a.pn a.sl a.ha a.vr a.vn a.c.k a.c.s a.c.q a.c.rs a.c.ws a.c.A1 a.c.c1 a.c.A2 a.c.c2 a.c.i a.c.j a.c.g a.c.st a.c.y br bn sn x.k x.s x.q x.rs x.ws x.A1 x.c1 x.A2 x.c2 x.i x.j x.g x.st x.y w B0 hB ok okx hm h2
        exact this.mono fun e w' h => ⟨by rw [h.1]; simp only [Ac.vote, hh]; rfl, h.2⟩
      · have hh : a.how br bn sn x = 3 := by unfold Ac.how; rw [hm, decide_eq_false h1, decide_eq_false h2]; rfl
        have := raccept_3 a.pr a.pn a.sl a.ha a.vr a.vn a.c.k a.c.s a.c.q a.c.rs a.c.ws a.c.A1 a.c.c1 a.c.A2 a.c.c2 a.c.i a.c.j a.c.g a.c.st a.c.y br bn sn x.k x.s x.q x.rs x.ws x.A1 x.c1 x.A2 x.c2 x.i x.j x.g x.st x.y w B0 hB ok okx hm (by omega)
        exact this.mono fun e w' h => ⟨by rw [h.1]; simp only [Ac.vote, hh]; rfl, h.2⟩
theorem Ac.prep_ok {w : World} {B : Nat} {a : Ac} (h : CmOk w B a.c) (br : Nat) (bn : Int) : CmOk w B (a.prep br bn).c := by
  unfold Ac.prep; cases a.may br bn <;> exact h
theorem Ac.vote_ok {w : World} {B : Nat} {a : Ac} (h : CmOk w B a.c) (br : Nat) (bn sn : Int) {x : Cm} (hx : CmOk w B x) : CmOk w B (a.vote br bn sn x).c := by
  unfold Ac.vote; cases decide (a.how br bn sn x = 3)
  · exact h
  · exact hx
theorem Ac.learn_ok {w : World} {B : Nat} {a : Ac} (h : CmOk w B a.c) (sn : Int) : CmOk w B (a.learn sn).c := by
  unfold Ac.learn; cases a.learns sn
  · exact h
  · exact CmOk.zero
/-! ### the plain laws -/
theorem B.less_self (r : Nat) (n : Int) : B.less r n r n = false := by simp [B.less]
theorem Ac.may_iff (a : Ac) (br : Nat) (bn : Int) : a.may br bn = true ↔ a.formed = true ∧ B.formed bn = true ∧ B.less br bn a.pr a.pn = false := by
  show (T.aformed _ _ _ _ _ _ _ _ _ _ _ _ _ _ _ _ && B.formed bn && !B.less br bn a.pr a.pn) = true ↔ _
  rw [Bool.and_eq_true, Bool.and_eq_true, Bool.not_eq_true', and_assoc]
  rfl
theorem Ac.formed_has {a : Ac} (h : a.ha = true) : a.formed = true ↔ B.formed a.pn = true ∧ (1 ≤ a.sl ∧ a.sl ≤ 1000000) ∧ B.formed a.vn = true ∧ B.less a.pr a.pn a.vr a.vn = false ∧ a.c.formed = true := by
  unfold Ac.formed T.aformed
  rw [h, cond_true]
  simp only [Bool.and_eq_true, decide_eq_true_eq, Bool.not_eq_true', and_assoc]
  rfl
theorem Ac.formed_not {a : Ac} (h : a.ha = false) : a.formed = true ↔ B.formed a.pn = true ∧ (1 ≤ a.sl ∧ a.sl ≤ 1000000) ∧ (a.vr = 0 ∧ a.vn = 0) ∧ SameC a.c Cm.zero = true := by
  unfold Ac.formed T.aformed
  rw [h, cond_false]
  simp only [Bool.and_eq_true, decide_eq_true_eq, SameC, and_assoc]
  rfl
theorem Ac.new_formed : Ac.new.formed = true := by decide
theorem Ac.prep_formed {a : Ac} (h : a.formed = true) (br : Nat) (bn : Int) : (a.prep br bn).formed = true := by
  unfold Ac.prep
  cases hm : a.may br bn with
  | false => exact h
  | true =>
    obtain ⟨_, h2, h3⟩ := (Ac.may_iff a br bn).1 hm
    cases hh : a.ha with
    | true =>
      obtain ⟨g1, g2, g3, g4, g5⟩ := (Ac.formed_has hh).1 h
      refine (Ac.formed_has (by simp [hh])).2 ⟨h2, g2, g3, ?_, g5⟩
      show B.less br bn a.vr a.vn = false
      simp [B.less] at h3 g4 ⊢
      omega
    | false =>
      obtain ⟨g1, g2, g3, g4⟩ := (Ac.formed_not hh).1 h
      exact (Ac.formed_not (by simp [hh])).2 ⟨h2, g2, g3, g4⟩
theorem Ac.how_three {a : Ac} {br : Nat} {bn sn : Int} {x : Cm} (h : a.how br bn sn x = 3) : a.may br bn = true ∧ x.formed = true ∧ sn = a.sl := by
  unfold Ac.how at h
  cases hm : a.may br bn <;> cases hx : x.formed <;> rw [hm, hx] at h
  · exact absurd h (by simp)
  · exact absurd h (by simp)
  · exact absurd h (by simp)
  · by_cases h1 : sn < a.sl
    · rw [decide_eq_true h1] at h; exact absurd h (by simp)
    · by_cases h2 : a.sl < sn
      · rw [decide_eq_false h1, decide_eq_true h2] at h; exact absurd h (by simp)
      · exact ⟨rfl, rfl, by omega⟩
theorem Ac.vote_formed {a : Ac} (h : a.formed = true) (br : Nat) (bn sn : Int) (x : Cm) : (a.vote br bn sn x).formed = true := by
  unfold Ac.vote
  by_cases hh : a.how br bn sn x = 3
  · obtain ⟨h1, h2, h3⟩ := Ac.how_three hh
    obtain ⟨g1, g2, g3⟩ := (Ac.may_iff a br bn).1 h1
    rw [decide_eq_true hh, cond_true]
    refine (Ac.formed_has rfl).2 ⟨g2, ?_, g2, B.less_self _ _, h2⟩
    show 1 ≤ sn ∧ sn ≤ 1000000
    rw [h3]
    exact T.aformed_slot h
  · rw [decide_eq_false hh]; exact h
theorem Ac.learns_iff (a : Ac) (sn : Int) : a.learns sn = true ↔ a.formed = true ∧ sn = a.sl ∧ sn ≠ 1000000 := by
  unfold Ac.learns T.learns
  rw [Bool.and_eq_true, Bool.and_eq_true, decide_eq_true_eq, decide_eq_true_eq, and_assoc]
  rfl
theorem Ac.formed_promised {a : Ac} (h : a.formed = true) : B.formed a.pn = true ∧ 1 ≤ a.sl ∧ a.sl ≤ 1000000 := by
  cases hh : a.ha with
  | true => exact ⟨((Ac.formed_has hh).1 h).1, ((Ac.formed_has hh).1 h).2.1⟩
  | false => exact ⟨((Ac.formed_not hh).1 h).1, ((Ac.formed_not hh).1 h).2.1⟩
theorem Ac.learn_formed {a : Ac} (h : a.formed = true) (sn : Int) : (a.learn sn).formed = true := by
  unfold Ac.learn
  cases hm : a.learns sn with
  | false => exact h
  | true =>
    obtain ⟨g1, g2, g3⟩ := (Ac.learns_iff a sn).1 hm
    obtain ⟨f1, f2, f3⟩ := Ac.formed_promised h
    refine (Ac.formed_not rfl).2 ⟨f1, ?_, ⟨rfl, rfl⟩, SameC.refl _⟩
    show 1 ≤ sn + 1 ∧ sn + 1 ≤ 1000000
    omega
/-- again: a promise -/
theorem Ac.prep_again (a : Ac) (br : Nat) (bn : Int) : (a.prep br bn).prep br bn = a.prep br bn ∧ (a.prep br bn).may br bn = a.may br bn := by
  cases hm : a.may br bn with
  | false =>
    have e : a.prep br bn = a := by unfold Ac.prep; rw [hm]; rfl
    rw [e, e]; exact ⟨rfl, hm⟩
  | true =>
    obtain ⟨h1, h2, h3⟩ := (Ac.may_iff a br bn).1 hm
    have e : a.prep br bn = ⟨br, bn, a.sl, a.ha, a.vr, a.vn, a.c⟩ := by unfold Ac.prep; rw [hm]; rfl
    have hf := Ac.prep_formed h1 br bn
    have hm2 : (a.prep br bn).may br bn = true := (Ac.may_iff _ br bn).2 ⟨hf, h2, by rw [e]; exact B.less_self _ _⟩
    refine ⟨?_, hm2⟩
    rw [show (a.prep br bn).prep br bn = ⟨br, bn, (a.prep br bn).sl, (a.prep br bn).ha, (a.prep br bn).vr, (a.prep br bn).vn, (a.prep br bn).c⟩ from by rw [Ac.prep, hm2]; rfl, e]
/-- again: a vote -/
theorem Ac.vote_again (a : Ac) (br : Nat) (bn sn : Int) (x : Cm) : (a.vote br bn sn x).vote br bn sn x = a.vote br bn sn x ∧ (a.vote br bn sn x).how br bn sn x = a.how br bn sn x := by
  by_cases hh : a.how br bn sn x = 3
  · obtain ⟨h1, h2, h3⟩ := Ac.how_three hh
    obtain ⟨g1, g2, g3⟩ := (Ac.may_iff a br bn).1 h1
    have e : a.vote br bn sn x = ⟨br, bn, sn, true, br, bn, x⟩ := by unfold Ac.vote; rw [decide_eq_true hh]; rfl
    have hf := Ac.vote_formed g1 br bn sn x
    have hm2 : (a.vote br bn sn x).may br bn = true := (Ac.may_iff _ br bn).2 ⟨hf, g2, by rw [e]; exact B.less_self _ _⟩
    have hw : (a.vote br bn sn x).how br bn sn x = 3 := by
      unfold Ac.how; rw [hm2, h2, e]
      show (bif decide (sn < sn) then (1 : Int) else bif decide (sn < sn) then 2 else 3) = 3
      rw [decide_eq_false (by omega)]; rfl
    refine ⟨?_, by rw [hw, hh]⟩
    rw [show (a.vote br bn sn x).vote br bn sn x = ⟨br, bn, sn, true, br, bn, x⟩ from by rw [Ac.vote, decide_eq_true hw]; rfl, e]
  · have e : a.vote br bn sn x = a := by unfold Ac.vote; rw [decide_eq_false hh]; rfl
    rw [e, e]; exact ⟨rfl, rfl⟩
/-- once: what was learnt -/
theorem Ac.learn_once (a : Ac) (sn : Int) (h : a.learns sn = true) : (a.learn sn).learns sn = false := by
  cases hl : (a.learn sn).learns sn with
  | false => rfl
  | true =>
    have g := ((Ac.learns_iff _ sn).1 hl).2.1
    have e : (a.learn sn).sl = sn + 1 := by unfold Ac.learn; rw [h]; rfl
    omega
/-- nothing falls -/
theorem Ac.prep_keeps (a : Ac) (br : Nat) (bn : Int) : B.less (a.prep br bn).pr (a.prep br bn).pn a.pr a.pn = false ∧ a.sl ≤ (a.prep br bn).sl := by
  unfold Ac.prep
  cases hm : a.may br bn with
  | false => exact ⟨B.less_self _ _, Int.le_refl _⟩
  | true => exact ⟨((Ac.may_iff a br bn).1 hm).2.2, Int.le_refl _⟩
theorem Ac.vote_keeps (a : Ac) (br : Nat) (bn sn : Int) (x : Cm) : B.less (a.vote br bn sn x).pr (a.vote br bn sn x).pn a.pr a.pn = false ∧ a.sl ≤ (a.vote br bn sn x).sl := by
  unfold Ac.vote
  by_cases hh : a.how br bn sn x = 3
  · obtain ⟨h1, h2, h3⟩ := Ac.how_three hh
    rw [decide_eq_true hh]
    exact ⟨((Ac.may_iff a br bn).1 h1).2.2, Int.le_of_eq h3.symm⟩
  · rw [decide_eq_false hh]; exact ⟨B.less_self _ _, Int.le_refl _⟩
theorem Ac.learn_keeps (a : Ac) (sn : Int) : B.less (a.learn sn).pr (a.learn sn).pn a.pr a.pn = false ∧ a.sl ≤ (a.learn sn).sl := by
  unfold Ac.learn
  cases hm : a.learns sn with
  | false => exact ⟨B.less_self _ _, Int.le_refl _⟩
  | true =>
    obtain ⟨g1, g2, g3⟩ := (Ac.learns_iff a sn).1 hm
    exact ⟨B.less_self _ _, by show a.sl ≤ sn + 1; omega⟩
/-- a vote is of no greater ballot than is promised -/
theorem Ac.formed_vote {a : Ac} (h : a.formed = true) (hh : a.ha = true) : B.less a.pr a.pn a.vr a.vn = false := ((Ac.formed_has hh).1 h).2.2.2.1
end Go.Proofs.YtbahooohkigcnaaDoor
