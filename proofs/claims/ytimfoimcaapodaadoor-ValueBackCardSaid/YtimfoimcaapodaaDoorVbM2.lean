import Derived.Test.YtimfoimcaapodaaDoorVbM1
import Derived.Deep.MidRow
import Derived.Deep.RegionHeld
set_option maxRecDepth 20001
set_option linter.unusedSimpArgs false
set_option linter.unusedVariables false
namespace Go.Proofs.YtimfoimcaapodaaDoor
set_option maxRecDepth 20000
section
open Go.RowKit Go.ChangeShapes Go.WideShapes Go.ChangeAt Go.Deep
def RowsAt (w : World) (B : Nat) (A : Option Addr) (k : Nat) (ls : List (List Value)) : Prop :=
 ∀ i cs, ls[i]? = some cs → ∃ b off, A = some ⟨b, off, none⟩ ∧ b < B ∧ ∀ j v, cs[j]? = some v → w.cell? ⟨b, off + i * k + j, none⟩ = some v
section
variable {w w' : World} {B B' k : Nat} {A : Option Addr} {ls : List (List Value)}
theorem RowsAt.nil : RowsAt w B A k [] := fun i cs h => by simp at h
theorem RowsAt.keep (h : RowsAt w B A k ls) (hk : ∀ p : Addr, p.block < B → w'.cell? p = w.cell? p) : RowsAt w' B A k ls := fun i cs hi => by
 obtain ⟨b, off, hA, hb, hc⟩ := h i cs hi;exact ⟨b, off, hA, hb, fun j v hj => (hk _ hb).trans (hc j v hj)⟩
theorem RowsAt.below (h : RowsAt w B A k ls) (hb : Below B' w w') (hB : B ≤ B') : RowsAt w' B A k ls := h.keep fun p hp => hb.cell (Nat.lt_of_lt_of_le hp hB)
theorem RowsAt.more (h : RowsAt w B A k ls) (hB : B ≤ B') : RowsAt w B' A k ls := fun i cs hi => by
 obtain ⟨b, off, hA, hb, hc⟩ := h i cs hi;exact ⟨b, off, hA, by omega, hc⟩
theorem RowsAt.alloc (h : RowsAt w B A k ls) (hB : B ≤ w.heap.size) (o : Obj) : RowsAt (w.alloc o) B A k ls := h.keep fun p hp => World.cell?_alloc_lt w o p (by omega)
theorem RowsAt.drewN (h : RowsAt w B A k ls) (n : Nat) : RowsAt (w.drewN n) B A k ls := h
theorem RowsAt.grown {g : Nat} (h : RowsAt w B A k ls) (hg : w.grownBy w' (some g)) (hB : B ≤ g) (hs : B ≤ w.heap.size) : RowsAt w' B A k ls := fun i cs hi => by
 obtain ⟨b, off, hA, hb, hc⟩ := h i cs hi;exact ⟨b, off, hA, hb, fun j v hj => hg.cell (hc j v hj) (by simp; omega)⟩
theorem RowsAt.at_ (h : RowsAt w B A k ls) {i : Nat} (hi : i < ls.length) : ∃ b off, A = some ⟨b, off, none⟩ ∧ b < B ∧ ∀ j v, ls[i][j]? = some v → w.cell? ⟨b, off + i * k + j, none⟩ = some v := h i _ (List.getElem?_eq_getElem hi)
end
theorem Cel.rows {α : Type} [Inhabited α] {W : World} {t e : TypeId} {A : Option Addr} {n c sz : Nat} (enc : α → List Value) (P : α → Prop) (h : Cel W t [.slice A n c]) (ht : Tryd.prog.underlying t = some (.slice e))
 (hsz : Tryd.prog.cellsOf e = sz) (hpos : 0 < sz) (hdec : ∀ cs, Cel W e cs → ∃ x, cs = enc x ∧ P x) :
 ∃ ls : List α, ls.length = n ∧ n ≤ c ∧ c ≤ maxLen ∧ (A = none → n = 0 ∧ c = 0) ∧ RowsAt W W.heap.size A sz (ls.map enc) ∧ ∀ x ∈ ls, P x := by
 obtain ⟨hn, hm, hA, hat⟩ := h.sliceAt ht sz hsz hpos
 by_cases h0 : 0 < n
 ·obtain ⟨b, off, rfl, hb, hi⟩ := hat h0
  have hex : ∀ i, ∃ x : α, i < n → (P x ∧ ∀ j v, (enc x)[j]? = some v → W.cell? ⟨b, off + i * sz + j, none⟩ = some v) := by
   intro i
   by_cases hlt : i < n
   ·obtain ⟨cs', hl, hce, hj⟩ := hi i hlt;obtain ⟨x, rfl, hp⟩ := hdec _ hce;exact ⟨x, fun _ => ⟨hp, fun j v hv => (hj j (by have := (List.getElem?_eq_some_iff.1 hv).1; omega)).trans hv⟩⟩
   ·exact ⟨default, fun h => absurd h hlt⟩
  refine ⟨(List.range n).map fun i => (hex i).choose, by simp, hn, hm, hA, fun i cs hc => ?_, fun x hx => ?_⟩
  ·rw [List.map_map, List.getElem?_map] at hc;obtain ⟨i', hi', rfl⟩ := Option.map_eq_some_iff.1 hc;obtain ⟨hlt, rfl⟩ := List.getElem?_eq_some_iff.1 hi';simp only [List.length_range] at hlt;simp only [List.getElem_range, Function.comp];exact ⟨b, off, rfl, hb, ((hex i).choose_spec hlt).2⟩
  ·obtain ⟨i, hi', rfl⟩ := List.mem_map.1 hx;exact ((hex i).choose_spec (List.mem_range.1 hi')).1
 ·(obtain rfl : n = 0 := by omega);exact ⟨[], rfl, hn, hm, hA, RowsAt.nil, fun x hx => by simp at hx⟩
theorem str_eta (t : ByteArray) : (⟨t.data.toList.toArray⟩ : ByteArray) = t := by
 obtain ⟨⟨l⟩⟩ := t;rfl
theorem str_size (t : ByteArray) : t.data.toList.length = t.size := by rw [Array.length_toList]; rfl
end
section
open Go.RowKit
section
variable {w w' : World} {g : Nat} {cs part : List Value} {t : TypeId} {o' : Obj}
theorem hpB (h : w.heap[g]? = some o') (hb : Below w.heap.size w w') : w'.heap[g]? = some o' := (hb.block g (Array.getElem?_eq_some_iff.1 h).1).trans h
theorem rowAt (h : w.heap[g]? = some (.cells cs.toArray t (0, 0))) : w.rangeAt g 0 cs := fun j v hj => by
 rw [Nat.zero_add, cell_of_row w g j cs.toArray t (0, 0) h]; simpa using hj
theorem rowCell (h : w.heap[g]? = some (.cells cs.toArray t (0, 0))) (i : Nat) {v : Value} (hv : cs[i]? = some v) : w.cell? ⟨g, i, none⟩ = some v := by
 rw [cell_of_row w g i cs.toArray t (0, 0) h]; simpa using hv
theorem rowThere (h : w.heap[g]? = some (.cells cs.toArray t (0, 0))) {o n : Nat} (hn : o + n ≤ cs.length) : w.there g o n := fun j hj => by
 refine ⟨?_, by simp [World.frozen?, h]⟩;rw [cell_of_row w g (o + j) cs.toArray t (0, 0) h, List.getElem?_toArray, List.getElem?_eq_getElem (by omega)]; rfl
end
theorem wpList_load_g {P : Program} {ops : Array Oper} {rest : List Oper} {op : Oper} {a : Act} {w : World} {Q : Exit → Act → World → Prop} (hw : Region.wanted op (yielded ops a.tmps) = true) (ty : TypeId) (x : Operand) (ho : op.op = .load ty x)
 (b o : Nat) (hx : a.eval x = .pointer (some ⟨b, o, none⟩)) (cs : List Value) (d : TypeDesc) (hc : w.rangeAt b o cs)
 (hu : P.underlying ty = some d) (hd : d.isRow = true) (hi : (P.info? ty).map (·.size) = some cs.length)
 (h : wpList P ops Q rest (a.put op.dst (.agg cs.toArray)) w) : wpList P ops Q (op :: rest) a w :=
 wpList_step fun _ hK => by rw [if_pos hw]; exact wp_load_mid ty x ho b o hx cs d hc hu hd hi (hK _ _ h)
theorem res_ct {P : Program} {fn : Func} {p u : Tmp} {ty : TypeId} (h : fn.results = #[.cell p ty, .tmp u]) {tmps : Array Value} {w : World} {g : Nat} {t : TypeId} {cs : List Value} {d : TypeDesc} {v : Value}
 (hp : tmps.getD p undef = .pointer (some ⟨g, 0, none⟩)) (hv : tmps.getD u undef = v) (hg : w.heap[g]? = some (.cells cs.toArray t (0, 0)))
 (hu : P.underlying ty = some d) (hd : d.isRow = true) (hi : (P.info? ty).map (·.size) = some cs.length) : (results fn tmps).run P w = .ok (.tuple #[.agg cs.toArray, v]) w := by
 (have hp' : tmps[p]?.getD undef = .pointer (some ⟨g, 0, none⟩) := by simpa using hp);(have hv' : tmps[u]?.getD undef = v := by simpa using hv);simp [results, h, hp', hv', asAddr, run_loadVar_mid w g 0 ty cs d (rowAt hg) hu hd hi]
def putAt (cs : List Value) : Nat → List Value → List Value
 | _, [] => cs
 | o, v :: r => putAt (cs.set o v) (o + 1) r
theorem hpC {g : Nat} {t : TypeId} : ∀ (vs : List Value) (o : Nat) (cs : List Value) (w : World), w.heap[g]? = some (.cells cs.toArray t (0, 0)) → (w.setCells g o vs).heap[g]? = some (.cells (putAt cs o vs).toArray t (0, 0))
 | [], _, _, _, h => h
 | v :: r, o, cs, w, h => by
   refine hpC r (o + 1) (cs.set o v) (w.setCell ⟨g, o, none⟩ v) ?_;simp [World.setCell, Array.getElem?_modify, h]
theorem belowDrewS {B : Nat} {a w : World} (h : Below B a w) : Below B a w.drew := ⟨h.os, h.tape, h.output, h.size, h.block⟩
end
section
open Go.RowKit
section
variable {w z z' : World} {B g k m i base e sz n : Nat} {o : Obj} {v : Value} {xs vs cs : List Value} {arr old : Array Value} {t : TypeId} {fz : Nat × Nat} {row : Option Nat}
theorem alN (h : z' = z.alloc o) : z'.heap[z.heap.size]? = some o := by subst h; exact heap_alloc_new z o
theorem alB (h : z' = z.alloc o) : Below z.heap.size z z' := by subst h; exact (Below.refl _ z).alloc (Nat.le_refl _) o
theorem drB (h : z' = z.drew) : Below z.heap.size z z' := by subst h; exact belowDrewS (Below.refl _ z)
theorem hD (h : z.heap[k]? = some o) : z.drew.heap[k]? = some o := h
theorem stN (h : z' = z.setCells k i vs) (hz : z.heap[k]? = some (.cells cs.toArray t (0, 0))) : z'.heap[k]? = some (.cells (putAt cs i vs).toArray t (0, 0)) := by subst h; exact hpC vs i cs z hz
theorem setG (k : Nat) : ∀ (vs : List Value) (i : Nat) (z : World), z.grownBy (z.setCells k i vs) (some k)
 | [], _, z => World.grownBy.refl z _
 | v :: r, i, z => by
   have h1 : z.grownBy (z.setCell ⟨k, i, none⟩ v) (some k) := ⟨rfl, rfl, rfl, by simp, fun j _ hj => Below.heap_setCell z ⟨k, i, none⟩ v j (fun e => hj (by rw [show j = k from e]))⟩;exact h1.trans (setG k r (i + 1) _)
theorem stG (h : z' = z.setCells k i vs) : z.grownBy z' (some k) := by subst h; exact setG k vs i z
theorem rwN (h : z' = z.setRow k arr) (hz : z.heap[k]? = some (.cells old t (0, 0))) : z'.heap[k]? = some (.cells arr t (0, 0)) := by subst h; exact setRow_heap z k _ arr _ _ hz
theorem rwG (h : z' = z.setRow k arr) : z.grownBy z' (some k) := by
 subst h;exact ⟨rfl, rfl, rfl, by rw [setRow_size]; exact Nat.le_refl _, fun i _ hi => setRow_other z k i arr (fun e => hi (by rw [e]))⟩
theorem hG (h : z.heap[g]? = some o) (q : z.grownBy z' (some k)) (hn : g ≠ k := by omega) : z'.heap[g]? = some o := (q.block g (Array.getElem?_eq_some_iff.1 h).1 (fun e => hn (by injection e))).trans h
theorem bG (h : Below w.heap.size w z) (q : z.grownBy z' (some k)) (hk : w.heap.size ≤ k := by omega) : Below w.heap.size w z' := h.grown q h.size (fun i hi => by injection hi with hi; omega)
theorem gN (h : w.grownBy z row) (q : z.grownBy z' (some k)) (hk : w.heap.size ≤ k := by omega) : w.grownBy z' row := ⟨q.os.trans h.os, q.tape.trans h.tape, q.output.trans h.output, Nat.le_trans h.size q.size, fun i hi hn => (q.block i (Nat.lt_of_lt_of_le hi h.size) (fun e => by injection e with e; omega)).trans (h.block i hi hn)⟩
theorem gB (h : w.grownBy z row) (t : Below z.heap.size z z') : w.grownBy z' row := h.trans ⟨t.os, t.tape, t.output, t.size, fun i hi _ => t.block i hi⟩
theorem ltG (hg : g = z.heap.size) (h : z.heap[k]? = some o) : k < g := hg ▸ (Array.getElem?_eq_some_iff.1 h).1
theorem ltS (hg : g = n) (h : k < n) : k < g := hg ▸ h
theorem szG (hg : g = z.heap.size) (h : Below B w z) : w.heap.size ≤ g := hg ▸ h.size
theorem szS (hg : g = n) (h : k ≤ n) : k ≤ g := hg ▸ h
end
end
end Go.Proofs.YtimfoimcaapodaaDoor
