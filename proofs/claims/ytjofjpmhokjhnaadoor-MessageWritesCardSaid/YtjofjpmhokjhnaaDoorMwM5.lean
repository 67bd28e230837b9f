/- Small laws on readers and worlds, for the walks of a seat that reaches layer 2. No condition. (Cut from CodeNew, CodeTakes and BallotIO: for a seat without those rows.) -/
import Derived.Test.YtjofjpmhokjhnaaDoorMwM4
import Derived.Test.YtjofjpmhokjhnaaDoorMwM1
import Derived.Deep.RegionHeld3
import Derived.Deep.RegionWith
namespace Go.Proofs.YtjofjpmhokjhnaaDoor
set_option maxRecDepth 20000
open Go.RowKit
set_option linter.unusedSimpArgs false
set_option linter.unusedVariables false

/-! ### what a reader does: the bytes that are left, and whether it has failed -/
namespace C
abbrev St := List UInt8 × Bool
def some_ (n : Nat) (s : St) : List UInt8 × St := if s.2 = true ∨ s.1.length < n then ([], (s.1, true)) else (s.1.take n, (s.1.drop n, false))
def take (n : Int) (s : St) : Nat × St := if n < 0 ∨ 8 < n then (0, (s.1, true)) else (val 0 (some_ n.toNat s).1, (some_ n.toNat s).2)
def text (most : Int) (s : St) : List UInt8 × St :=
  some_ (take 2 s).1 ((take 2 s).2.1, (take 2 s).2.2 || decide (most < ((take 2 s).1 : Int)))
end C

/-- the reader in block g holds the bytes l that are left, and the mark f -/
def RdrAt (w : World) (B g : Nat) (s : C.St) : Prop :=
  ∃ A c, w.heap[g]? = some (.cells #[.slice A s.1.length c, .bool s.2] 154 (0, 0)) ∧ s.1.length ≤ c ∧ c ≤ maxLen ∧ (A = none → s.1 = [] ∧ c = 0) ∧ Rd w B A (bc s.1) ∧ B ≤ g

theorem cellAt {w : World} {g : Nat} {cs : Array Value} {t : TypeId} (h : w.heap[g]? = some (.cells cs t (0, 0))) (i : Nat) : w.cell? ⟨g, i, none⟩ = cs[i]? := cell_of_row w g i cs t (0, 0) h
theorem freeAt {w : World} {g : Nat} {cs : Array Value} {t : TypeId} (h : w.heap[g]? = some (.cells cs t (0, 0))) (i : Nat) : w.frozen? ⟨g, i, none⟩ = false := by
  simp [World.frozen?, h]
theorem ltAt {w : World} {g : Nat} {o : Obj} (h : w.heap[g]? = some o) : g < w.heap.size := (Array.getElem?_eq_some_iff.1 h).1
theorem Rd.grownOther {w w' : World} {B g : Nat} {A : Option Addr} {xs : List Value} (h : Rd w B A xs) (hg : w.grownBy w' (some g)) (hB : B ≤ g) : Rd w' B A xs := fun j u hu => by
  obtain ⟨b, off, hA, hb, hc⟩ := h j u hu
  exact ⟨b, off, hA, hb, (World.cell?_of_block (hg.block b (World.block_lt_of_cell? w _ hc) (fun e => by injection e; omega))).trans hc⟩

theorem RdrAt.drewN {w : World} {B g : Nat} {s : C.St} (h : RdrAt w B g s) (n : Nat) : RdrAt (w.drewN n) B g s := h
def C.left (s : C.St) : Nat := if s.2 = true then 0 else s.1.length
end Go.Proofs.YtjofjpmhokjhnaaDoor

namespace Go.Proofs.YtjofjpmhokjhnaaDoor
set_option maxRecDepth 20001
open Go.RowKit
set_option linter.unusedSimpArgs false
set_option linter.unusedVariables false

end Go.Proofs.YtjofjpmhokjhnaaDoor

namespace Go.Proofs.YtjofjpmhokjhnaaDoor
set_option maxRecDepth 20001
open Go.RowKit
set_option linter.unusedSimpArgs false
set_option linter.unusedVariables false

theorem heapB {w w' : World} {g : Nat} {o' : Obj} (h : w.heap[g]? = some o') (hb : Below w.heap.size w w') : w'.heap[g]? = some o' := (hb.block g (Array.getElem?_eq_some_iff.1 h).1).trans h
theorem RdrAt.other {w w' : World} {B g k : Nat} {s : C.St} (h : RdrAt w B g s) (hg : w.grownBy w' (some k)) (hk : k ≠ g) (hB : B ≤ k) : RdrAt w' B g s := by
  obtain ⟨A, c, hb, h1, h2, h3, hr, h4⟩ := h
  exact ⟨A, c, (hg.block g (ltAt hb) (fun e => hk (by injection e with e; exact e.symm))).trans hb, h1, h2, h3, hr.grownOther hg hB, h4⟩
theorem RdrAt.alloc {w : World} {B g : Nat} {s : C.St} (h : RdrAt w B g s) (o : Obj) : RdrAt (w.alloc o) B g s := by
  obtain ⟨A, c, hb, h1, h2, h3, hr, h4⟩ := h
  exact ⟨A, c, (Below.heap_alloc w o g (ltAt hb)).trans hb, h1, h2, h3, hr.alloc (by have := ltAt hb; omega) o, h4⟩
theorem put_one (l : List UInt8) (x : Nat) : C.put l x 1 = l ++ [UInt8.ofNat x] := by
  show l ++ C.be x 1 = _
  simp [C.be]
theorem grownTrans {a b c : World} {r : Option Nat} (h : a.grownBy b r) (k : b.grownBy c r) : a.grownBy c r :=
  ⟨k.os.trans h.os, k.tape.trans h.tape, k.output.trans h.output, Nat.le_trans h.size k.size, fun i hi hne => (k.block i (Nat.lt_of_lt_of_le hi h.size) hne).trans (h.block i hi hne)⟩
theorem RdrAt.below {w w' : World} {B g : Nat} {s : C.St} (h : RdrAt w B g s) (hb : Below w.heap.size w w') : RdrAt w' B g s := by
  obtain ⟨A, c, hb0, h1, h2, h3, hr, h4⟩ := h
  exact ⟨A, c, heapB hb0 hb, h1, h2, h3, hr.below (hb.mono (by have := ltAt hb0; omega)), h4⟩
theorem belowGrownI {w w' : World} (hb : Below w.heap.size w w') : w.grownBy w' none := ⟨hb.os, hb.tape, hb.output, hb.size, fun k hk _ => hb.block k hk⟩
theorem ownKeptI {w w' : World} {base e n s : Nat} {v : Value} {xs : List Value} (h : w.ownsRow base e s v n xs) (hb : Below w.heap.size w w') : w'.ownsRow base e s v n xs :=
  h.kept (belowGrownI hb) (by cases hv : v.ownBlock with
    | none => exact .inl rfl
    | some g => exact .inr (by simp))
end Go.Proofs.YtjofjpmhokjhnaaDoor
