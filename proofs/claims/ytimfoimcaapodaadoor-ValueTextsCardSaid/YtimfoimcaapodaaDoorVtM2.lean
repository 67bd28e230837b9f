import Derived.Test.YtimfoimcaapodaaDoorVtM1
import Derived.Deep.MidRow
import Derived.Deep.RegionHeld
set_option maxRecDepth 20001
set_option linter.unusedSimpArgs false
set_option linter.unusedVariables false
namespace Go.Proofs.YtimfoimcaapodaaDoor
set_option maxRecDepth 20000
section
open Go.RowKit
section
variable {w w' : World} {g : Nat} {cs part : List Value} {t : TypeId} {o' : Obj}
theorem hpB (h : w.heap[g]? = some o') (hb : Below w.heap.size w w') : w'.heap[g]? = some o' := (hb.block g (Array.getElem?_eq_some_iff.1 h).1).trans h
theorem rowAt (h : w.heap[g]? = some (.cells cs.toArray t (0, 0))) : w.rangeAt g 0 cs := fun j v hj => by
 rw [Nat.zero_add, cell_of_row w g j cs.toArray t (0, 0) h]; simpa using hj
theorem rowCell (h : w.heap[g]? = some (.cells cs.toArray t (0, 0))) (i : Nat) {v : Value} (hv : cs[i]? = some v) : w.cell? ⟨g, i, none⟩ = some v := by
 rw [cell_of_row w g i cs.toArray t (0, 0) h]; simpa using hv
theorem rowThere (h : w.heap[g]? = some (.cells cs.toArray t (0, 0))) {o n : Nat} (hn : o + n ≤ cs.length) : w.there g o n := fun j hj => by
 refine ⟨?_, by simp [World.frozen?, h]⟩;rw [cell_of_row w g (o + j) cs.toArray t (0, 0) h, List.getElem?_toArray, List.getElem?_eq_getElem (by omega)]; rfl
end
theorem wpList_load_g {P : Program} {ops : Array Oper} {rest : List Oper} {op : Oper} {a : Act} {w : World} {Q : Exit → Act → World → Prop} (hw : Region.wanted op (yielded ops a.tmps) = true) (ty : TypeId) (x : Operand) (ho : op.op = .load ty x)
 (b o : Nat) (hx : a.eval x = .pointer (some ⟨b, o, none⟩)) (cs : List Value) (d : TypeDesc) (hc : w.rangeAt b o cs)
 (hu : P.underlying ty = some d) (hd : d.isRow = true) (hi : (P.info? ty).map (·.size) = some cs.length)
 (h : wpList P ops Q rest (a.put op.dst (.agg cs.toArray)) w) : wpList P ops Q (op :: rest) a w :=
 wpList_step fun _ hK => by rw [if_pos hw]; exact wp_load_mid ty x ho b o hx cs d hc hu hd hi (hK _ _ h)
theorem res_ct {P : Program} {fn : Func} {p u : Tmp} {ty : TypeId} (h : fn.results = #[.cell p ty, .tmp u]) {tmps : Array Value} {w : World} {g : Nat} {t : TypeId} {cs : List Value} {d : TypeDesc} {v : Value}
 (hp : tmps.getD p undef = .pointer (some ⟨g, 0, none⟩)) (hv : tmps.getD u undef = v) (hg : w.heap[g]? = some (.cells cs.toArray t (0, 0)))
 (hu : P.underlying ty = some d) (hd : d.isRow = true) (hi : (P.info? ty).map (·.size) = some cs.length) : (results fn tmps).run P w = .ok (.tuple #[.agg cs.toArray, v]) w := by
 (have hp' : tmps[p]?.getD undef = .pointer (some ⟨g, 0, none⟩) := by simpa using hp);(have hv' : tmps[u]?.getD undef = v := by simpa using hv);simp [results, h, hp', hv', asAddr, run_loadVar_mid w g 0 ty cs d (rowAt hg) hu hd hi]
def putAt (cs : List Value) : Nat → List Value → List Value
 | _, [] => cs
 | o, v :: r => putAt (cs.set o v) (o + 1) r
theorem hpC {g : Nat} {t : TypeId} : ∀ (vs : List Value) (o : Nat) (cs : List Value) (w : World), w.heap[g]? = some (.cells cs.toArray t (0, 0)) → (w.setCells g o vs).heap[g]? = some (.cells (putAt cs o vs).toArray t (0, 0))
 | [], _, _, _, h => h
 | v :: r, o, cs, w, h => by
   refine hpC r (o + 1) (cs.set o v) (w.setCell ⟨g, o, none⟩ v) ?_;simp [World.setCell, Array.getElem?_modify, h]
theorem belowDrewS {B : Nat} {a w : World} (h : Below B a w) : Below B a w.drew := ⟨h.os, h.tape, h.output, h.size, h.block⟩
end
section
open Go.RowKit
section
variable {w z z' : World} {B g k m i base e sz n : Nat} {o : Obj} {v : Value} {xs vs cs : List Value} {arr old : Array Value} {t : TypeId} {fz : Nat × Nat} {row : Option Nat}
theorem alN (h : z' = z.alloc o) : z'.heap[z.heap.size]? = some o := by subst h; exact heap_alloc_new z o
theorem alB (h : z' = z.alloc o) : Below z.heap.size z z' := by subst h; exact (Below.refl _ z).alloc (Nat.le_refl _) o
theorem drB (h : z' = z.drew) : Below z.heap.size z z' := by subst h; exact belowDrewS (Below.refl _ z)
theorem hD (h : z.heap[k]? = some o) : z.drew.heap[k]? = some o := h
theorem stN (h : z' = z.setCells k i vs) (hz : z.heap[k]? = some (.cells cs.toArray t (0, 0))) : z'.heap[k]? = some (.cells (putAt cs i vs).toArray t (0, 0)) := by subst h; exact hpC vs i cs z hz
theorem setG (k : Nat) : ∀ (vs : List Value) (i : Nat) (z : World), z.grownBy (z.setCells k i vs) (some k)
 | [], _, z => World.grownBy.refl z _
 | v :: r, i, z => by
   have h1 : z.grownBy (z.setCell ⟨k, i, none⟩ v) (some k) := ⟨rfl, rfl, rfl, by simp, fun j _ hj => Below.heap_setCell z ⟨k, i, none⟩ v j (fun e => hj (by rw [show j = k from e]))⟩;exact h1.trans (setG k r (i + 1) _)
theorem stG (h : z' = z.setCells k i vs) : z.grownBy z' (some k) := by subst h; exact setG k vs i z
theorem hG (h : z.heap[g]? = some o) (q : z.grownBy z' (some k)) (hn : g ≠ k := by omega) : z'.heap[g]? = some o := (q.block g (Array.getElem?_eq_some_iff.1 h).1 (fun e => hn (by injection e))).trans h
theorem bG (h : Below w.heap.size w z) (q : z.grownBy z' (some k)) (hk : w.heap.size ≤ k := by omega) : Below w.heap.size w z' := h.grown q h.size (fun i hi => by injection hi with hi; omega)
theorem ltG (hg : g = z.heap.size) (h : z.heap[k]? = some o) : k < g := hg ▸ (Array.getElem?_eq_some_iff.1 h).1
theorem szG (hg : g = z.heap.size) (h : Below B w z) : w.heap.size ≤ g := hg ▸ h.size
end
end
end Go.Proofs.YtimfoimcaapodaaDoor
