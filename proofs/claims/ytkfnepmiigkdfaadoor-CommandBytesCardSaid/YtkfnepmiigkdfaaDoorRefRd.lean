/- The reference's reader's block among blocks that are made: what is kept. No condition. -/
import Derived.Test.YtkfnepmiigkdfaaDoorRdLaws
import Derived.Test.YtkfnepmiigkdfaaDoorValRTake
namespace Go.Proofs.YtkfnepmiigkdfaaDoor
set_option maxRecDepth 20000
open Go.RowKit T
set_option linter.unusedSimpArgs false
set_option linter.unusedVariables false
section
variable {w z z' : World} {B g k base e sz n : Nat} {v : Value} {xs : List Value} {s : C.St} {cs : Array Value}
theorem RefAt.row (h : RefAt z B g s) (hk : k ≠ g) (hB : B ≤ k) : RefAt (z.setRow k cs) B g s := h.other (grownRow z k cs) hk hB
theorem RefAt.drewS (h : RefAt z B g s) : RefAt z.drew B g s := h
theorem RefAt.set1 (h : RefAt z B g s) (hk : k ≠ g) (hB : B ≤ k) (i : Nat) (u : Value) : RefAt (z.setCells k i [u]) B g s := h.setNew hk hB i u
theorem RefAt.setN (hk : k ≠ g) (hB : B ≤ k) : ∀ (vs : List Value) (i : Nat) (z : World), RefAt z B g s → RefAt (z.setCells k i vs) B g s
  | [], _, _, h => h
  | v :: r, i, z, h => RefAt.setN hk hB r (i + 1) (z.setCell ⟨k, i, none⟩ v) (h.setNew hk hB i v)
theorem RefAt.own (h : RefAt z B g s) (hu : z.ownsRow base e sz v n xs) (hg : z.grownBy z' v.ownBlock) (hb : g < base) : RefAt z' B g s := by
  obtain ⟨A, c, full, at_, hb0, h1, h2, h3, hr, h4, h5⟩ := h
  refine ⟨A, c, full, at_, (hg.block g (ltAt hb0) (ownLow hu hb)).trans hb0, h1, h2, h3, fun j u hj => ?_, h4, h5⟩
  obtain ⟨b, off, hA, hlt, hc⟩ := hr j u hj
  exact ⟨b, off, hA, hlt, (World.cell?_of_block (hg.block b (World.block_lt_of_cell? z _ hc) (ownLow hu (by omega)))).trans hc⟩
theorem grownFail (h : w.grownBy z (some g)) (u : Value) : w.grownBy (z.setCell ⟨g, 2, none⟩ u) (some g) := grownTrans h (grownSet z g 2 u)
end
namespace T
/-- the reference's loops: until it has failed -/
def untl {α : Type} (f : C.St → α × C.St) : Nat → List α × C.St → List α × C.St
  | 0, a => a
  | n + 1, a => bif a.2.2 then a else untl f n (a.1 ++ [(f a.2).1], (f a.2).2)
def rttake0 (s : C.St) : ((Nat × Nat) × List Rd1 × List Wr1) × C.St :=
  let i := idtake s
  let n := C.take 1 i.2
  let R := untl rtake n.1 ([], n.2)
  let m := C.take 1 R.2
  let Ws := untl wtake m.1 ([], m.2)
  ((i.1, R.1, Ws.1), Ws.2)
def rttake (s : C.St) : ((Nat × Nat) × List Rd1 × List Wr1) × C.St :=
  bif (rttake0 s).2.2 || !formed (rttake0 s).1.1.1 (rttake0 s).1.1.2 (rttake0 s).1.2.1 (rttake0 s).1.2.2 then (((0, 0), [], []), ((rttake0 s).2.1, true)) else rttake0 s
end T
end Go.Proofs.YtkfnepmiigkdfaaDoor
