import Derived.Test.YthclniimhpmeoaaGreatDoorMrM40
set_option maxRecDepth 20001
set_option linter.unusedSimpArgs false
set_option linter.unusedVariables false
namespace Go.Proofs.YthclniimhpmeoaaGreatDoor
set_option maxRecDepth 20000
section
open Go.RowKit T
def CtN (z : World) (B g a b d : Nat) (m : Ms) : Prop := ∀ z' : World, (∀ i, B ≤ i → i < z.heap.size → i ≠ g → i ≠ a → i ≠ b → i ≠ d → z'.heap[i]? = z.heap[i]?) → CmOk z' z'.heap.size m.c
theorem CtN.zero (z : World) (B g a b d : Nat) (k : Int) : CtN z B g a b d (Ms.zero k) := fun _ _ => CmOk.zero
section
variable {z z1 : World} {B g a b d : Nat} {m : Ms}
theorem CtN.step (h : CtN z B g a b d m) (hs : z.heap.size ≤ z1.heap.size) (hk : ∀ i, B ≤ i → i < z.heap.size → i ≠ g → i ≠ a → i ≠ b → i ≠ d → z1.heap[i]? = z.heap[i]?) : CtN z1 B g a b d m :=
 fun z' h' => h z' fun i hB hi h1 h2 h3 h4 => (h' i hB (by omega) h1 h2 h3 h4).trans (hk i hB hi h1 h2 h3 h4)
theorem CtN.below (h : CtN z B g a b d m) (hb : Below z.heap.size z z1) : CtN z1 B g a b d m := h.step hb.size fun i _ hi _ _ _ _ => hb.block i hi
theorem CtN.drew (h : CtN z B g a b d m) : CtN z.drew B g a b d m := h
theorem CtN.alloc (h : CtN z B g a b d m) (o : Obj) : CtN (z.alloc o) B g a b d m := h.below ((Below.refl _ z).alloc (Nat.le_refl _) o)
theorem CtN.rdr (h : CtN z B g a b d m) (hg : z.grownBy z1 (some g)) : CtN z1 B g a b d m := h.step hg.size fun i _ hi hn _ _ _ => hg.block i hi (fun e => hn (by injection e))
theorem CtN.cells (h : CtN z B g a b d m) (vs : List Value) (o : Nat) : CtN (z.setCells a o vs) B g a b d m := h.step (by rw [setCells_size]; exact Nat.le_refl _) fun i _ _ _ ha _ _ => setCells_heap ha vs o z
theorem CtN.rowB (h : CtN z B g a b d m) (cs : Array Value) : CtN (z.setRow b cs) B g a b d m := h.step (by rw [setRow_size]; exact Nat.le_refl _) fun i _ _ _ _ hb _ => setRow_other z b i cs hb
theorem CtN.cz {z' : World} {i : Nat} {vs : List Value} (h : CtN z B g a b d m) (hz : z' = z.setCells a i vs) : CtN z' B g a b d m := by subst hz; exact h.cells vs i
theorem CtN.rz {z' : World} {cs : Array Value} (h : CtN z B g a b d m) (hz : z' = z.setRow b cs) : CtN z' B g a b d m := by subst hz; exact h.rowB cs
theorem CtN.newC {w0 : World} {y : Cm} (h : CtN z B g a b d m) (f : ∀ z' : World, (∀ i, w0.heap.size ≤ i → i < z.heap.size → z'.heap[i]? = z.heap[i]?) → CmOk z' z'.heap.size y) (hB : B ≤ w0.heap.size) (l1 : g < w0.heap.size) (l2 : a < w0.heap.size) (l3 : b < w0.heap.size) (l4 : d < w0.heap.size) : CtN z B g a b d { m with c := y } :=
 fun z' h' => f z' fun i hi hl => h' i (by omega) hl (by omega) (by omega) (by omega) (by omega)
end
def NewR (B : Nat) (z : World) (x : Rc) : Prop := ∀ z' : World, (∀ i, B ≤ i → i < z.heap.size → z'.heap[i]? = z.heap[i]?) → RcOk z' z'.heap.size x
theorem NewR.out {B : Nat} {z : World} {x : Rc} (h : NewR B z x) : RcOk z z.heap.size x := h z fun _ _ _ => rfl
theorem NewR.zero {B : Nat} {z : World} : NewR B z Rc.zero := fun _ _ => rcZero
end
section
open Go.RowKit T
namespace T
end T
theorem refAtCell {z : World} {B g c : Nat} {A : Option Addr} {full : List UInt8} {s : C.St} (h : RefF z B g A c full s) : ∃ at_ : Nat, z.cell? ⟨g, 1, none⟩ = some (.int .i64 (at_ : Int)) ∧ z.cell? ⟨g, 2, none⟩ = some (.bool s.2) ∧ at_ ≤ full.length ∧ s.1 = full.drop at_ := by
 obtain ⟨at_, hb, h1, h2, h3, hr, hB, hl⟩ := h;have c1 := cellAt hb 1;have c2 := cellAt hb 2;exact ⟨at_, by simpa using c1, by simpa using c2, h1, hl⟩
theorem exec_slice_lf {a : Act} {o : Oper} {w : World} (x lo : Operand) {A : Option Addr} {len cap k : Nat} (ho : o.op = .slice 34 x (some lo) none none) (hx : a.eval x = .slice A len cap) (hh : a.eval lo = .int .i64 (k : Int)) (h2 : k ≤ len) :
 (execOp a.eval o).run Tryz.prog w = .ok (.value (.slice (if cap = k then A else A.map (·.add k)) (len - k) (cap - k))) w := exec_slice_l x lo ho hx hh h2
theorem rbtake_w (B0 g : Nat) (s : C.St) (w : World) (h : RefAt w B0 g s) : Calls Tryz.prog 45 #[.pointer (some ⟨g, 0, none⟩)] w fun e w' => e = .returned (.agg [.int .u32 ((B.take s).1.1 : Int), .int .i64 ((B.take s).1.2 : Int)].toArray) ∧ RefAt w' B0 g (B.take s).2 ∧ w.grownBy w' (some g) := rbtake_any B0 g s w h
theorem SlB.rdOf {w : World} {B c : Nat} {A : Option Addr} {l : List UInt8} (h : SlB w B (.slice A l.length c) l) : Rd w B A (bc l) := by
 obtain ⟨A', c', e, _, _, _, r⟩ := h;injection e with e1 e2 e3;subst e1;exact r
end
section
open Go.RowKit
def OgF (w w' : World) (P : Nat → Prop) : Prop := Below 0 w w' ∧ ∀ i, i < w.heap.size → ¬ P i → w'.heap[i]? = w.heap[i]?
section
variable {w z c z' : World} {h k : Nat} {old cs : Array Value} {t : TypeId} {P : Nat → Prop} {base e sz n : Nat} {v : Value} {xs : List Value} {B : Nat}
theorem OgF.refl (w : World) (P : Nat → Prop) : OgF w w P := ⟨Below.refl 0 w, fun _ _ _ => rfl⟩
theorem OgF.size (p : OgF w z P) : w.heap.size ≤ z.heap.size := p.1.size
theorem ogBelow (p : OgF w z P) (q : Below z.heap.size z c) : OgF w c P := ⟨p.1.trans (q.mono (Nat.zero_le _)), fun i hi hn => (q.block i (Nat.lt_of_lt_of_le hi p.1.size)).trans (p.2 i hi hn)⟩
theorem ogGrown (p : OgF w z P) (q : z.grownBy c (some h)) (hk : P h ∨ w.heap.size ≤ h) : OgF w c P :=
 ⟨p.1.grown q (Nat.zero_le _) (fun _ _ => Nat.zero_le _), fun i hi hn => (q.block i (Nat.lt_of_lt_of_le hi p.1.size) (fun e => by
  injection e with e;rcases hk with hk | hk
  ·exact hn (by rw [e]; exact hk)
  ·omega)).trans (p.2 i hi hn)⟩
theorem OgF.toGrown {g : Nat} (p : OgF w z (fun i => i = g)) : w.grownBy z (some g) :=
 ⟨p.1.os, p.1.tape, p.1.output, p.1.size, fun i hi hne => p.2 i hi (fun e => hne (by rw [e]))⟩
theorem OgF.heap {o : Obj} (q : OgF w z P) (p : w.heap[k]? = some o) (hn : ¬ P k) : z.heap[k]? = some o := (q.2 k (Array.getElem?_eq_some_iff.1 p).1 hn).trans p
theorem OgF.own (q : OgF w z P) (p : w.ownsRow base e sz v n xs) (hn : ∀ i, v.ownBlock = some i → ¬ P i) : z.ownsRow base e sz v n xs := by
 rcases p.2 with h0 | ⟨g, cap, cur, hv, hb', hg, rest⟩
 ·exact ⟨p.1, Or.inl h0⟩
 ·exact ⟨p.1, Or.inr ⟨g, cap, cur, hv, hb', q.heap hg (hn g (by rw [hv]; rfl)), rest⟩⟩
end
end
section
open Go.RowKit T
namespace T
def mtkR (p : Ms × C.St) (c : Nat) : Ms × C.St :=
 if c = 66 then ({ p.1 with br := (B.take p.2).1.1, bn := ((B.take p.2).1.2 : Int) }, (B.take p.2).2)
 else if c = 83 then ({ p.1 with sl := ((C.take 4 p.2).1 : Int) }, (C.take 4 p.2).2)
 else if c = 72 then
  (if (C.take 1 p.2).1 = 1 then ({ p.1 with ha := true, vr := (B.take (C.take 1 p.2).2).1.1, vn := ((B.take (C.take 1 p.2).2).1.2 : Int), c := (rctake (B.take (C.take 1 p.2).2).2).1 }, (rctake (B.take (C.take 1 p.2).2).2).2)
   else ({ p.1 with ha := false }, (C.take 1 p.2).2))
 else if c = 67 then ({ p.1 with c := (rctake p.2).1 }, (rctake p.2).2)
 else if c = 84 then ({ p.1 with t := { p.1.t with s := ((rttake p.2).1.1.1 : Int), q := ((rttake p.2).1.1.2 : Int), rs := (rttake p.2).1.2.1, ws := (rttake p.2).1.2.2 } }, (rttake p.2).2)
 else if c = 73 then ({ p.1 with ii := ((idtake p.2).1.1 : Int), ij := ((idtake p.2).1.2 : Int) }, (idtake p.2).2)
 else if c = 71 then ({ p.1 with g := ((C.take 1 p.2).1 : Int) }, (C.take 1 p.2).2)
 else if c = 80 then ({ p.1 with st := (C.take 8 p.2).1 }, (C.take 8 p.2).2)
 else if c = 89 then ({ p.1 with ye := decide ((C.take 1 p.2).1 = 1) }, (C.take 1 p.2).2)
 else if c = 78 then ({ p.1 with nu := ((C.take 4 p.2).1 : Int) }, (C.take 4 p.2).2)
 else if c = 75 then ({ p.1 with ky := ⟨(C.text 12 p.2).1.toArray⟩ }, (C.text 12 p.2).2)
 else if c = 86 then ({ p.1 with ve := (C.take 8 p.2).1 }, (C.take 8 p.2).2)
 else if c = 88 then ({ p.1 with vk := ((V.take p.2).1.1 : Int), vb := (V.take p.2).1.2.1, vt := ⟨(V.take p.2).1.2.2.toArray⟩ }, (V.take p.2).2)
 else if c = 69 then ({ p.1 with er := ((C.take 1 p.2).1 : Int) }, (C.take 1 p.2).2)
 else if c = 68 then ({ p.1 with dt := restOf (C.take 4 p.2).2 }, (C.take 4 p.2).2)
 else p
def hf (k : Int) : List UInt8 := if k = 1 then [66] else if k = 2 then [66, 83, 72] else if k = 3 then [66] else if k = 4 then [66, 83, 67] else if k = 5 then [66, 83] else if k = 6 then [83, 67] else if k = 7 then [83] else if k = 8 then [84] else if k = 15 then [83] else []
end T
def CtM (z : World) (B g a b d : Nat) (m : Ms) : Prop := ∀ z' : World, (∀ i, B ≤ i → i < z.heap.size → i ≠ g → i ≠ a → i ≠ b → i ≠ d → z'.heap[i]? = z.heap[i]?) → CmOk z' z'.heap.size m.c ∧ TxOk z' z'.heap.size m.t.rs m.t.ws m.t.A1 m.t.c1 m.t.A2 m.t.c2
theorem CtM.zero (z : World) (B g a b d : Nat) (k : Int) : CtM z B g a b d (Ms.zero k) := fun _ _ => ⟨CmOk.zero, TxOk.zero⟩
section
variable {z z1 : World} {B g a b d : Nat} {m n : Ms}
theorem CtM.step (h : CtM z B g a b d m) (hs : z.heap.size ≤ z1.heap.size) (hk : ∀ i, B ≤ i → i < z.heap.size → i ≠ g → i ≠ a → i ≠ b → i ≠ d → z1.heap[i]? = z.heap[i]?) : CtM z1 B g a b d m :=
 fun z' h' => h z' fun i hB hi h1 h2 h3 h4 => (h' i hB (by omega) h1 h2 h3 h4).trans (hk i hB hi h1 h2 h3 h4)
theorem CtM.below (h : CtM z B g a b d m) (hb : Below z.heap.size z z1) : CtM z1 B g a b d m := h.step hb.size fun i _ hi _ _ _ _ => hb.block i hi
theorem CtM.drew (h : CtM z B g a b d m) : CtM z.drew B g a b d m := h
theorem CtM.alloc (h : CtM z B g a b d m) (o : Obj) : CtM (z.alloc o) B g a b d m := h.below ((Below.refl _ z).alloc (Nat.le_refl _) o)
theorem CtM.rdr (h : CtM z B g a b d m) (hg : z.grownBy z1 (some g)) : CtM z1 B g a b d m := h.step hg.size fun i _ hi hn _ _ _ => hg.block i hi (fun e => hn (by injection e))
theorem CtM.cells (h : CtM z B g a b d m) (vs : List Value) (o : Nat) : CtM (z.setCells a o vs) B g a b d m := h.step (by rw [setCells_size]; exact Nat.le_refl _) fun i _ _ _ ha _ _ => setCells_heap ha vs o z
theorem CtM.rowA (h : CtM z B g a b d m) (cs : Array Value) : CtM (z.setRow a cs) B g a b d m := h.step (by rw [setRow_size]; exact Nat.le_refl _) fun i _ _ _ ha _ _ => setRow_other z a i cs ha
theorem CtM.rowB (h : CtM z B g a b d m) (cs : Array Value) : CtM (z.setRow b cs) B g a b d m := h.step (by rw [setRow_size]; exact Nat.le_refl _) fun i _ _ _ _ hb _ => setRow_other z b i cs hb
theorem CtM.cz {z' : World} {i : Nat} {vs : List Value} (h : CtM z B g a b d m) (hz : z' = z.setCells a i vs) : CtM z' B g a b d m := by subst hz; exact h.cells vs i
theorem CtM.ra {z' : World} {cs : Array Value} (h : CtM z B g a b d m) (hz : z' = z.setRow a cs) : CtM z' B g a b d m := by subst hz; exact h.rowA cs
theorem CtM.rz {z' : World} {cs : Array Value} (h : CtM z B g a b d m) (hz : z' = z.setRow b cs) : CtM z' B g a b d m := by subst hz; exact h.rowB cs
theorem CtM.same (h : CtM z B g a b d m) (hc : n.c = m.c) (ht : n.t = m.t) : CtM z B g a b d n := fun z' h' => by rw [hc, ht]; exact h z' h'
theorem CtM.newC {w0 : World} {y : Cm} (h : CtM z B g a b d m) (f : ∀ z' : World, (∀ i, w0.heap.size ≤ i → i < z.heap.size → z'.heap[i]? = z.heap[i]?) → CmOk z' z'.heap.size y) (hB : B ≤ w0.heap.size) (l1 : g < w0.heap.size) (l2 : a < w0.heap.size) (l3 : b < w0.heap.size) (l4 : d < w0.heap.size) (hc : n.c = y) (ht : n.t = m.t) : CtM z B g a b d n :=
 fun z' h' => ⟨by rw [hc]; exact f z' fun i hi hl => h' i (by omega) hl (by omega) (by omega) (by omega) (by omega), by rw [ht]; exact (h z' h').2⟩
theorem CtM.newT {w0 : World} {y : Tn} (h : CtM z B g a b d m) (f : ∀ z' : World, (∀ i, w0.heap.size ≤ i → i < z.heap.size → z'.heap[i]? = z.heap[i]?) → TxOk z' z'.heap.size y.rs y.ws y.A1 y.c1 y.A2 y.c2) (hB : B ≤ w0.heap.size) (l1 : g < w0.heap.size) (l2 : a < w0.heap.size) (l3 : b < w0.heap.size) (l4 : d < w0.heap.size) (hc : n.c = m.c) (ht : n.t = y) : CtM z B g a b d n :=
 fun z' h' => ⟨by rw [hc]; exact (h z' h').1, by rw [ht]; exact f z' fun i hi hl => h' i (by omega) hl (by omega) (by omega) (by omega) (by omega)⟩
theorem CtM.newM {w0 : World} (f : ∀ z' : World, (∀ i, w0.heap.size ≤ i → i < z.heap.size → z'.heap[i]? = z.heap[i]?) → CmOk z' z'.heap.size m.c ∧ TxOk z' z'.heap.size m.t.rs m.t.ws m.t.A1 m.t.c1 m.t.A2 m.t.c2) (hB : B ≤ w0.heap.size) (l1 : g < w0.heap.size) (l2 : a < w0.heap.size) (l3 : b < w0.heap.size) (l4 : d < w0.heap.size) : CtM z B g a b d m :=
 fun z' h' => f z' fun i hi hl => h' i (by omega) hl (by omega) (by omega) (by omega) (by omega)
theorem CtM.fresh (h : CtM z B g a b d m) : ∀ z' : World, (∀ i, B ≤ i → i < z.heap.size → z'.heap[i]? = z.heap[i]?) → CmOk z' z'.heap.size m.c ∧ TxOk z' z'.heap.size m.t.rs m.t.ws m.t.A1 m.t.c1 m.t.A2 m.t.c2 := fun z' h' => h z' fun i hB hi _ _ _ _ => h' i hB hi
end
def HeadM (w : World) (r : Ms) (e : Ending) (w' : World) : Prop :=
 ∃ m : Ms, e = .returned (.agg m.cells.toArray) ∧ Like m r ∧ NumOk m ∧ (m.D = none ∧ m.dc = 0 ∧ m.dt = []) ∧ ∀ z' : World, (∀ i, w.heap.size ≤ i → i < w'.heap.size → z'.heap[i]? = w'.heap[i]?) → CmOk z' z'.heap.size m.c ∧ TxOk z' z'.heap.size m.t.rs m.t.ws m.t.A1 m.t.c1 m.t.A2 m.t.c2
theorem rttake_n (B g : Nat) (w : World) (s : C.St) (h : RefAt w B g s) : Calls Tryz.prog 92 #[.pointer (some ⟨g, 0, none⟩)] w fun e w' => (∃ y : Tn, e = .returned (.agg y.cells.toArray) ∧ y.s = ((rttake s).1.1.1 : Int) ∧ y.q = ((rttake s).1.1.2 : Int) ∧ y.rs = (rttake s).1.2.1 ∧ y.ws = (rttake s).1.2.2 ∧ ∀ z : World, (∀ i, w.heap.size ≤ i → i < w'.heap.size → z.heap[i]? = w'.heap[i]?) → TxOk z z.heap.size y.rs y.ws y.A1 y.c1 y.A2 y.c2) ∧ RefAt w' B g (rttake s).2 ∧ w.grownBy w' (some g) :=
 (rttake_any B g w s h).mono fun e w' q => by
  obtain ⟨⟨A1, c1, A2, c2, h1, h2⟩, h3, h4⟩ := q;exact ⟨⟨⟨_, _, _, _, A1, c1, A2, c2⟩, h1, rfl, rfl, rfl, rfl, h2⟩, h3, h4⟩
end
end Go.Proofs.YthclniimhpmeoaaGreatDoor
