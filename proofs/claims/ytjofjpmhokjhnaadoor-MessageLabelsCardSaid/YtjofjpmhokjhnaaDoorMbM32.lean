/- The reference's Formed of messages. Conditions: what lies, lies below. (Printed by gen_msg.py.) -/
import Derived.Test.YtjofjpmhokjhnaaDoorMbM30
import Derived.Test.YtjofjpmhokjhnaaDoorMbM31
import Derived.Test.YtjofjpmhokjhnaaDoorMbM29
import Derived.Test.YtjofjpmhokjhnaaDoorMbM28
import Derived.Test.YtjofjpmhokjhnaaDoorMbM20
namespace Go.Proofs.YtjofjpmhokjhnaaDoor
set_option maxRecDepth 20000
open Go.RowKit T
set_option linter.unusedSimpArgs false
set_option linter.unusedVariables false

theorem rcs (x y : Cm) (w : World) (B : Nat) (hB : B ≤ w.heap.size) (ok : CmOk w B x) (ok' : CmOk w B y) : Calls Tryd.prog 59 #[.agg x.cells.toArray, .agg y.cells.toArray] w fun e w' => e = .returned (.bool (SameC x y)) ∧ Below w.heap.size w w' :=
  rcsame_any x.k x.s x.q x.rs x.ws x.A1 x.c1 x.A2 x.c2 x.i x.j x.g x.st x.y y.k y.s y.q y.rs y.ws y.A1 y.c1 y.A2 y.c2 y.i y.j y.g y.st y.y w B hB ok ok'
def T.Tn.formed (x : Tn) : Bool := T.formed x.s x.q x.rs x.ws
abbrev TnOk (w : World) (B : Nat) (x : Tn) : Prop := TxOk w B x.rs x.ws x.A1 x.c1 x.A2 x.c2
theorem rts (x y : Tn) (w : World) (B : Nat) (hB : B ≤ w.heap.size) (ok : TnOk w B x) (ok' : TnOk w B y) : Calls Tryd.prog 60 #[.agg x.cells.toArray, .agg y.cells.toArray] w fun e w' => e = .returned (.bool (SameT x y)) ∧ Below w.heap.size w w' :=
  rtsame_any x.s x.q x.rs x.ws x.A1 x.c1 x.A2 x.c2 y.s y.q y.rs y.ws y.A1 y.c1 y.A2 y.c2 w B hB ok ok'
theorem run_eqvD (k : Int) (b : Nat) (t : ByteArray) (k' : Int) (b' : Nat) (t' : ByteArray) (w : World) :
    (binOp .eql 35 (.agg #[.int .i64 k, .int .u64 b, .string t]) (.agg #[.int .i64 k', .int .u64 b', .string t'])).run Tryd.prog w = .ok (.bool (decide (k = k' ∧ b = b' ∧ t.data.toList = t'.data.toList))) w := by
  have h := V.run_eqv k b t k' b' t' w
  simp only [Lib.toList_data] at h
  exact h
/-- the reference's first -/
def T.Ms.rfirst (m : Ms) : Bool := (bif ((T.uB m.kd && (!(B.formed m.bn))) || ((!(T.uB m.kd)) && (!decide (m.br = 0 ∧ m.bn = 0)))) then false else (bif (((decide (m.sl < 0) || decide (m.sl > 1000000)) || ((!(T.uS m.kd)) && (!decide (m.sl = 0)))) || (m.ha && (!(T.uH m.kd)))) then false else (bif ((m.ha && (!(B.formed m.vn))) || ((!m.ha) && (!decide (m.vr = 0 ∧ m.vn = 0)))) then false else (bif (m.ha || T.uC m.kd) then m.c.formed else SameC m.c Cm.zero))))
/-- the reference's second -/
def T.Ms.rsecond (m : Ms) : Bool := (bif ((T.uT m.kd && (!m.t.formed)) || ((!(T.uT m.kd)) && (!(SameT m.t Tn.zero)))) then false else (bif ((T.uI m.kd && (!(idb m.ii m.ij))) || ((!(T.uI m.kd)) && (!decide (m.ii = 0 ∧ m.ij = 0)))) then false else (bif ((((decide (m.g < 0) || decide (m.g ≥ 4)) || ((!(T.uG m.kd)) && (!decide (m.g = 0)))) || ((!(T.uP m.kd)) && (!decide ((m.st : Int) = 0)))) || (m.ye && (!(T.uY m.kd)))) then false else ((decide (m.nu ≥ 0) && decide (m.nu ≤ 2147483647)) && (T.uN m.kd || decide (m.nu = 0))))))
/-- the reference's Formed -/
def T.Ms.rformed (m : Ms) : Bool := (bif (((decide (m.kd < 1) || decide (m.kd > 15)) || (!m.rfirst)) || (!m.rsecond)) then false else (bif (((T.uK m.kd && (!(V.key m.ky.data.toList))) && ((!decide (m.kd = 13)) || (!(m.ky.data.toList == ((⟨#[]⟩ : ByteArray)).data.toList)))) || ((!(T.uK m.kd)) && (!(m.ky.data.toList == ((⟨#[]⟩ : ByteArray)).data.toList)))) then false else (bif ((!(T.uV m.kd)) && (((!decide ((m.ve : Int) = 0)) || (!decide (m.vk = 0 ∧ m.vb = 0 ∧ m.vt.data.toList = ByteArray.empty.data.toList))) || (!decide (m.er = 0)))) then false else (bif (((!(V.formed m.vk m.vb m.vt.data.toList)) || decide (m.er < 0)) || decide (m.er > 11)) then false else (decide ((m.dt.length : Int) ≤ 59900) && (T.uD m.kd || decide ((m.dt.length : Int) = 0)))))))
end Go.Proofs.YtjofjpmhokjhnaaDoor
