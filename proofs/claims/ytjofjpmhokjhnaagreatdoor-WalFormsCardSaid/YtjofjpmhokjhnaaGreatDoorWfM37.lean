import Derived.Test.YtjofjpmhokjhnaaGreatDoorWfM27
set_option linter.unusedSimpArgs false
set_option linter.unusedVariables false
namespace Go.Proofs.YtjofjpmhokjhnaaGreatDoor
set_option maxRecDepth 20000
open Go.RowKit T
def CtN (z : World) (B g a b d : Nat) (m : Ms) : Prop := ∀ z' : World, (∀ i, B ≤ i → i < z.heap.size → i ≠ g → i ≠ a → i ≠ b → i ≠ d → z'.heap[i]? = z.heap[i]?) → CmOk z' z'.heap.size m.c
theorem CtN.zero (z : World) (B g a b d : Nat) (k : Int) : CtN z B g a b d (Ms.zero k) := fun _ _ => CmOk.zero
section
variable {z z1 : World} {B g a b d : Nat} {m : Ms}
theorem CtN.step (h : CtN z B g a b d m) (hs : z.heap.size ≤ z1.heap.size) (hk : ∀ i, B ≤ i → i < z.heap.size → i ≠ g → i ≠ a → i ≠ b → i ≠ d → z1.heap[i]? = z.heap[i]?) : CtN z1 B g a b d m :=
 fun z' h' => h z' fun i hB hi h1 h2 h3 h4 => (h' i hB (by omega) h1 h2 h3 h4).trans (hk i hB hi h1 h2 h3 h4)
theorem CtN.below (h : CtN z B g a b d m) (hb : Below z.heap.size z z1) : CtN z1 B g a b d m := h.step hb.size fun i _ hi _ _ _ _ => hb.block i hi
theorem CtN.drew (h : CtN z B g a b d m) : CtN z.drew B g a b d m := h
theorem CtN.alloc (h : CtN z B g a b d m) (o : Obj) : CtN (z.alloc o) B g a b d m := h.below ((Below.refl _ z).alloc (Nat.le_refl _) o)
theorem CtN.rdr (h : CtN z B g a b d m) (hg : z.grownBy z1 (some g)) : CtN z1 B g a b d m := h.step hg.size fun i _ hi hn _ _ _ => hg.block i hi (fun e => hn (by injection e))
theorem CtN.cells (h : CtN z B g a b d m) (vs : List Value) (o : Nat) : CtN (z.setCells a o vs) B g a b d m := h.step (by rw [setCells_size]; exact Nat.le_refl _) fun i _ _ _ ha _ _ => setCells_heap ha vs o z
theorem CtN.rowB (h : CtN z B g a b d m) (cs : Array Value) : CtN (z.setRow b cs) B g a b d m := h.step (by rw [setRow_size]; exact Nat.le_refl _) fun i _ _ _ _ hb _ => setRow_other z b i cs hb
theorem CtN.newC {w0 : World} {y : Cm} (h : CtN z B g a b d m) (f : ∀ z' : World, (∀ i, w0.heap.size ≤ i → i < z.heap.size → z'.heap[i]? = z.heap[i]?) → CmOk z' z'.heap.size y) (hB : B ≤ w0.heap.size) (l1 : g < w0.heap.size) (l2 : a < w0.heap.size) (l3 : b < w0.heap.size) (l4 : d < w0.heap.size) : CtN z B g a b d { m with c := y } :=
 fun z' h' => f z' fun i hi hl => h' i (by omega) hl (by omega) (by omega) (by omega) (by omega)
end
def NewR (B : Nat) (z : World) (x : Rc) : Prop := ∀ z' : World, (∀ i, B ≤ i → i < z.heap.size → z'.heap[i]? = z.heap[i]?) → RcOk z' z'.heap.size x
theorem NewR.out {B : Nat} {z : World} {x : Rc} (h : NewR B z x) : RcOk z z.heap.size x := h z fun _ _ _ => rfl
theorem NewR.zero {B : Nat} {z : World} : NewR B z Rc.zero := fun _ _ => rcZero
theorem ownKeep {z z' : World} {B : Nat} {v : Value} {l : List UInt8} (o : OwnB z B v l) (hz : ∀ i, B ≤ i → i < z.heap.size → z'.heap[i]? = z.heap[i]?) : OwnB z' B v l := by
 refine ⟨o.1, ?_⟩
 rcases o.2 with h | ⟨k, cap, cur, e, hk, hh, r⟩
 ·exact Or.inl h
 ·exact Or.inr ⟨k, cap, cur, e, hk, (hz k hk (Array.getElem?_eq_some_iff.1 hh).1).trans hh, r⟩
theorem rcOk2N {z : World} {B g a b d : Nat} {m : Ms} (ck : CtN z B g a b d m) (x : Rc) (hc : x.c = m.c) (hb : x.br < 4294967296) (o : OwnB z B (.slice x.D x.dt.length x.dc) x.dt) : NewR B z x := fun z' hz => by
 obtain ⟨A, c, e1, e2, e3, e4, e5⟩ := SlB.ofOwn (ownKeep o hz)
 injection e1 with e6 e7 e8
 subst e6; subst e8
 exact ⟨by rw [hc]; exact ck z' (fun i hB hi _ _ _ _ => hz i hB hi), e5, e2, e3, e4, hb⟩
def ReadN (w : World) (l : List UInt8) (e : Ending) (w' : World) : Prop :=
 ∃ n x, e = .returned (.tuple #[.agg n.cells.toArray, .int .i64 x]) ∧ NewR w.heap.size w' n ∧ x = (bif rcok l then 0 else 2) ∧ LikeR n (bif rcok l then rcm l else Rc.zero)
end Go.Proofs.YtjofjpmhokjhnaaGreatDoor
