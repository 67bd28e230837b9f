/- Laws of whole rows: structs that lie in cells, as lists that nobody opens. No condition. (Printed by gen_accm.py.) -/
import Derived.Test.YtjofjpmhokjhnaaDoorMem
import Derived.Deep.MidRow
import Derived.Deep.RegionHeld
namespace Go.Proofs.YtjofjpmhokjhnaaDoor
set_option maxRecDepth 20000
open Go.RowKit
set_option linter.unusedSimpArgs false
set_option linter.unusedVariables false

section
variable {w w' : World} {g : Nat} {cs part : List Value} {t : TypeId} {o' : Obj}
/-- what lies behind steps that go past it -/
theorem hpB (h : w.heap[g]? = some o') (hb : Below w.heap.size w w') : w'.heap[g]? = some o' := (hb.block g (Array.getElem?_eq_some_iff.1 h).1).trans h
theorem hpA (h : w.heap[g]? = some o') (o : Obj) : (w.alloc o).heap[g]? = some o' := (Below.heap_alloc w o g (Array.getElem?_eq_some_iff.1 h).1).trans h
theorem hpS (h : w.heap[g]? = some o') {p : Addr} (hp : g ≠ p.block) (u : Value) : (w.setCell p u).heap[g]? = some o' := (Below.heap_setCell w p u g hp).trans h
theorem hpR (h : w.heap[g]? = some o') {g' : Nat} (hp : g ≠ g') (vs : Array Value) : (w.setRow g' vs).heap[g]? = some o' := (setRow_other w g' g vs hp).trans h
theorem hpN (w : World) (o : Obj) {n : Nat} (hn : n = w.heap.size) : (w.alloc o).heap[n]? = some o := by subst hn; exact heap_alloc_new w o
/-- a whole row, and a part of it, as ranges -/
theorem rowAt (h : w.heap[g]? = some (.cells cs.toArray t (0, 0))) : w.rangeAt g 0 cs := fun j v hj => by
  rw [Nat.zero_add, cell_of_row w g j cs.toArray t (0, 0) h]; simpa using hj
theorem rowMid (h : w.heap[g]? = some (.cells cs.toArray t (0, 0))) (o : Nat) (hp : ∀ j v, part[j]? = some v → cs[o + j]? = some v) : w.rangeAt g o part := fun j v hj => by
  rw [cell_of_row w g (o + j) cs.toArray t (0, 0) h]; simpa using hp j v hj
theorem rowCell (h : w.heap[g]? = some (.cells cs.toArray t (0, 0))) (i : Nat) {v : Value} (hv : cs[i]? = some v) : w.cell? ⟨g, i, none⟩ = some v := by
  rw [cell_of_row w g i cs.toArray t (0, 0) h]; simpa using hv
theorem rowThere (h : w.heap[g]? = some (.cells cs.toArray t (0, 0))) {o n : Nat} (hn : o + n ≤ cs.length) : w.there g o n := fun j hj => by
  refine ⟨?_, by simp [World.frozen?, h]⟩
  rw [cell_of_row w g (o + j) cs.toArray t (0, 0) h, List.getElem?_toArray, List.getElem?_eq_getElem (by omega)]; rfl
theorem belowSet {B : Nat} {a w : World} (h : Below B a w) {g : Nat} {old cs : Array Value} {t : TypeId} (hg : w.heap[g]? = some (.cells old t (0, 0))) (hB : B ≤ g) : Below B a (w.setRow g cs) :=
  ⟨h.os, h.tape, h.output, by rw [setRow_size]; exact h.size, fun i hi => (setRow_other w g i cs (by omega)).trans (h.block i hi)⟩
end
/-- a guarded load that is carried out -/
theorem wpList_load_g {P : Program} {ops : Array Oper} {rest : List Oper} {op : Oper} {a : Act} {w : World} {Q : Exit → Act → World → Prop} (hw : Region.wanted op (yielded ops a.tmps) = true) (ty : TypeId) (x : Operand) (ho : op.op = .load ty x)
    (b o : Nat) (hx : a.eval x = .pointer (some ⟨b, o, none⟩)) (cs : List Value) (d : TypeDesc) (hc : w.rangeAt b o cs)
    (hu : P.underlying ty = some d) (hd : d.isRow = true) (hi : (P.info? ty).map (·.size) = some cs.length)
    (h : wpList P ops Q rest (a.put op.dst (.agg cs.toArray)) w) : wpList P ops Q (op :: rest) a w :=
  wpList_step fun _ hK => by rw [if_pos hw]; exact wp_load_mid ty x ho b o hx cs d hc hu hd hi (hK _ _ h)
/-- what a function returns that keeps its results in variables -/
theorem res_ct {P : Program} {fn : Func} {p u : Tmp} {ty : TypeId} (h : fn.results = #[.cell p ty, .tmp u]) {tmps : Array Value} {w : World} {g : Nat} {t : TypeId} {cs : List Value} {d : TypeDesc} {v : Value}
    (hp : tmps.getD p undef = .pointer (some ⟨g, 0, none⟩)) (hv : tmps.getD u undef = v) (hg : w.heap[g]? = some (.cells cs.toArray t (0, 0)))
    (hu : P.underlying ty = some d) (hd : d.isRow = true) (hi : (P.info? ty).map (·.size) = some cs.length) : (results fn tmps).run P w = .ok (.tuple #[.agg cs.toArray, v]) w := by
  have hp' : tmps[p]?.getD undef = .pointer (some ⟨g, 0, none⟩) := by simpa using hp
  have hv' : tmps[u]?.getD undef = v := by simpa using hv
  simp [results, h, hp', hv', asAddr, run_loadVar_mid w g 0 ty cs d (rowAt hg) hu hd hi]
theorem res_cct {P : Program} {fn : Func} {p q u : Tmp} {ty ty2 : TypeId} (h : fn.results = #[.cell p ty, .cell q ty2, .tmp u]) {tmps : Array Value} {w : World} {g g2 : Nat} {t t2 : TypeId} {cs cs2 : List Value} {d d2 : TypeDesc} {v : Value}
    (hp : tmps.getD p undef = .pointer (some ⟨g, 0, none⟩)) (hq : tmps.getD q undef = .pointer (some ⟨g2, 0, none⟩)) (hv : tmps.getD u undef = v) (hg : w.heap[g]? = some (.cells cs.toArray t (0, 0))) (hg2 : w.heap[g2]? = some (.cells cs2.toArray t2 (0, 0)))
    (hu : P.underlying ty = some d) (hd : d.isRow = true) (hi : (P.info? ty).map (·.size) = some cs.length) (hu2 : P.underlying ty2 = some d2) (hd2 : d2.isRow = true) (hi2 : (P.info? ty2).map (·.size) = some cs2.length) :
    (results fn tmps).run P w = .ok (.tuple #[.agg cs.toArray, .agg cs2.toArray, v]) w := by
  have hp' : tmps[p]?.getD undef = .pointer (some ⟨g, 0, none⟩) := by simpa using hp
  have hq' : tmps[q]?.getD undef = .pointer (some ⟨g2, 0, none⟩) := by simpa using hq
  have hv' : tmps[u]?.getD undef = v := by simpa using hv
  simp [results, h, hp', hq', hv', asAddr, run_loadVar_mid w g 0 ty cs d (rowAt hg) hu hd hi, run_loadVar_mid w g2 0 ty2 cs2 d2 (rowAt hg2) hu2 hd2 hi2]
/-- does a load, a store come next? -/
theorem isLoad {P : Program} {ops : Array Oper} {rest : List Oper} {op : Oper} {a : Act} {w : World} {Q : Exit → Act → World → Prop} {ty : TypeId} {x : Operand} (ho : op.op = .load ty x) (h : wpList P ops Q (op :: rest) a w) : wpList P ops Q (op :: rest) a w := h
theorem isStore {P : Program} {ops : Array Oper} {rest : List Oper} {op : Oper} {a : Act} {w : World} {Q : Exit → Act → World → Prop} {ty : TypeId} {x y : Operand} (ho : op.op = .store ty x y) (h : wpList P ops Q (op :: rest) a w) : wpList P ops Q (op :: rest) a w := h
/-- cells put into a row, from o on -/
def putAt (cs : List Value) : Nat → List Value → List Value
  | _, [] => cs
  | o, v :: r => putAt (cs.set o v) (o + 1) r
theorem hpC {g : Nat} {t : TypeId} : ∀ (vs : List Value) (o : Nat) (cs : List Value) (w : World), w.heap[g]? = some (.cells cs.toArray t (0, 0)) → (w.setCells g o vs).heap[g]? = some (.cells (putAt cs o vs).toArray t (0, 0))
  | [], _, _, _, h => h
  | v :: r, o, cs, w, h => by
    refine hpC r (o + 1) (cs.set o v) (w.setCell ⟨g, o, none⟩ v) ?_
    simp [World.setCell, Array.getElem?_modify, h]
theorem hpCo {g g' : Nat} {o' : Obj} (hp : g ≠ g') : ∀ (vs : List Value) (o : Nat) (w : World), w.heap[g]? = some o' → (w.setCells g' o vs).heap[g]? = some o'
  | [], _, _, h => h
  | v :: r, o, w, h => hpCo hp r (o + 1) (w.setCell ⟨g', o, none⟩ v) (hpS h (by exact hp) v)
theorem belowC {B g : Nat} {a : World} (hB : B ≤ g) : ∀ (vs : List Value) (o : Nat) (w : World), Below B a w → Below B a (w.setCells g o vs)
  | [], _, _, h => h
  | v :: r, o, w, h => belowC hB r (o + 1) (w.setCell ⟨g, o, none⟩ v) (h.setCell hB v)
theorem belowDrewS {B : Nat} {a w : World} (h : Below B a w) : Below B a w.drew := ⟨h.os, h.tape, h.output, h.size, h.block⟩
/-- element k of rows -/
theorem rowsGet {w : World} {B sz : Nat} {A : Option Addr} {α : Type} {enc : α → List Value} {ls : List α} (h : RowsAt w B A sz (ls.map enc)) {k : Nat} (hk : k < ls.length) : ∃ b off, A = some ⟨b, off, none⟩ ∧ b < B ∧ w.rangeAt b (off + k * sz) (enc ls[k]) := by
  obtain ⟨b, off, h1, h2, h3⟩ := h k (enc ls[k]) (by rw [List.getElem?_map, List.getElem?_eq_getElem hk]; rfl)
  exact ⟨b, off, h1, h2, fun j v hv => h3 j v hv⟩
theorem rangeB {w w' : World} {b o B : Nat} {cs : List Value} (h : w.rangeAt b o cs) (hb : Below B w w') (hB : b < B) : w'.rangeAt b o cs := fun j v hv => (hb.cell hB).trans (h j v hv)
theorem rangePart {w : World} {b o m : Nat} {cs part : List Value} (h : w.rangeAt b o cs) (hp : ∀ j v, part[j]? = some v → cs[m + j]? = some v) : w.rangeAt b (o + m) part := fun j v hv => by
  rw [Nat.add_assoc]; exact h (m + j) v (hp j v hv)
theorem rowsAtK {w : World} {B sz bo off : Nat} {α : Type} {enc : α → List Value} {ls : List α} (h : RowsAt w B (some ⟨bo, off, none⟩) sz (ls.map enc)) {k : Nat} {x : α} (hk : ls[k]? = some x) : w.rangeAt bo (off + k * sz) (enc x) := by
  obtain ⟨b', off', h1, h2, h3⟩ := h k (enc x) (by rw [List.getElem?_map, hk]; rfl)
  injection h1 with h1
  injection h1 with e1 e2
  subst e1; subst e2
  exact fun j v hv => h3 j v hv
theorem rangeCell {w : World} {b o : Nat} {cs : List Value} (h : w.rangeAt b o cs) (j : Nat) {v : Value} (hv : cs[j]? = some v) : w.cell? ⟨b, o + j, none⟩ = some v := h j v hv
theorem ownBelow {w w' : World} {base e size n : Nat} {v : Value} {xs : List Value} (h : w.ownsRow base e size v n xs) (hb : Below w.heap.size w w') : w'.ownsRow base e size v n xs := by
  rcases h.2 with h0 | ⟨g, cap, cur, hv, hb', hg, rest⟩
  · exact ⟨h.1, Or.inl h0⟩
  · exact ⟨h.1, Or.inr ⟨g, cap, cur, hv, hb', hpB hg hb, rest⟩⟩
end Go.Proofs.YtjofjpmhokjhnaaDoor
