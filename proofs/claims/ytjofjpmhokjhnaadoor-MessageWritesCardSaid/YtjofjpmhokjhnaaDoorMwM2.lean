/- Laws of whole rows: structs that lie in cells, as lists that nobody opens. No condition. (Printed by gen_accm.py.) -/
import Derived.Test.YtjofjpmhokjhnaaDoorMwM1
import Derived.Deep.MidRow
import Derived.Deep.RegionHeld
namespace Go.Proofs.YtjofjpmhokjhnaaDoor
set_option maxRecDepth 20000
open Go.RowKit Go.ChangeShapes Go.WideShapes Go.ChangeAt Go.Deep
set_option linter.unusedSimpArgs false
set_option linter.unusedVariables false

/-- the cells at A hold rows of k cells each, all below B -/
def RowsAt (w : World) (B : Nat) (A : Option Addr) (k : Nat) (ls : List (List Value)) : Prop :=
  ∀ i cs, ls[i]? = some cs → ∃ b off, A = some ⟨b, off, none⟩ ∧ b < B ∧ ∀ j v, cs[j]? = some v → w.cell? ⟨b, off + i * k + j, none⟩ = some v
section
variable {w w' : World} {B B' k : Nat} {A : Option Addr} {ls : List (List Value)}
theorem RowsAt.nil : RowsAt w B A k [] := fun i cs h => by simp at h
theorem RowsAt.keep (h : RowsAt w B A k ls) (hk : ∀ p : Addr, p.block < B → w'.cell? p = w.cell? p) : RowsAt w' B A k ls := fun i cs hi => by
  obtain ⟨b, off, hA, hb, hc⟩ := h i cs hi
  exact ⟨b, off, hA, hb, fun j v hj => (hk _ hb).trans (hc j v hj)⟩
theorem RowsAt.below (h : RowsAt w B A k ls) (hb : Below B' w w') (hB : B ≤ B') : RowsAt w' B A k ls := h.keep fun p hp => hb.cell (Nat.lt_of_lt_of_le hp hB)
theorem RowsAt.more (h : RowsAt w B A k ls) (hB : B ≤ B') : RowsAt w B' A k ls := fun i cs hi => by
  obtain ⟨b, off, hA, hb, hc⟩ := h i cs hi
  exact ⟨b, off, hA, by omega, hc⟩
theorem RowsAt.alloc (h : RowsAt w B A k ls) (hB : B ≤ w.heap.size) (o : Obj) : RowsAt (w.alloc o) B A k ls := h.keep fun p hp => World.cell?_alloc_lt w o p (by omega)
theorem RowsAt.drewN (h : RowsAt w B A k ls) (n : Nat) : RowsAt (w.drewN n) B A k ls := h
theorem RowsAt.grown {g : Nat} (h : RowsAt w B A k ls) (hg : w.grownBy w' (some g)) (hB : B ≤ g) (hs : B ≤ w.heap.size) : RowsAt w' B A k ls := fun i cs hi => by
  obtain ⟨b, off, hA, hb, hc⟩ := h i cs hi
  exact ⟨b, off, hA, hb, fun j v hj => hg.cell (hc j v hj) (by simp; omega)⟩
/-- element i -/
theorem RowsAt.at_ (h : RowsAt w B A k ls) {i : Nat} (hi : i < ls.length) : ∃ b off, A = some ⟨b, off, none⟩ ∧ b < B ∧ ∀ j v, ls[i][j]? = some v → w.cell? ⟨b, off + i * k + j, none⟩ = some v := h i _ (List.getElem?_eq_getElem hi)
end
/-- a cell of a slice's type is a slice -/
theorem Cel.isSlice {W : World} {t e : TypeId} {v : Value} (h : Cel W t [v]) (ht : Tryd.prog.underlying t = some (.slice e)) : ∃ (A : Option Addr) (n c : Nat), v = .slice A n c := by
  obtain ⟨H, enc, fuel, x, h⟩ := h
  rcases open_slice ht h with ⟨h1, _⟩ | ⟨a, len, cap, m, k, D, Pl, h1, _⟩
  · simp at h1; exact ⟨_, _, _, h1⟩
  · simp at h1; exact ⟨_, _, _, h1⟩
/-- a slice that came in reads as rows of cells, and each of them as what its cells read as -/
theorem Cel.rows {α : Type} [Inhabited α] {W : World} {t e : TypeId} {A : Option Addr} {n c sz : Nat} (enc : α → List Value) (P : α → Prop) (h : Cel W t [.slice A n c]) (ht : Tryd.prog.underlying t = some (.slice e))
    (hsz : Tryd.prog.cellsOf e = sz) (hpos : 0 < sz) (hdec : ∀ cs, Cel W e cs → ∃ x, cs = enc x ∧ P x) :
    ∃ ls : List α, ls.length = n ∧ n ≤ c ∧ c ≤ maxLen ∧ (A = none → n = 0 ∧ c = 0) ∧ RowsAt W W.heap.size A sz (ls.map enc) ∧ ∀ x ∈ ls, P x := by
  obtain ⟨hn, hm, hA, hat⟩ := h.sliceAt ht sz hsz hpos
  by_cases h0 : 0 < n
  · obtain ⟨b, off, rfl, hb, hi⟩ := hat h0
    have hex : ∀ i, ∃ x : α, i < n → (P x ∧ ∀ j v, (enc x)[j]? = some v → W.cell? ⟨b, off + i * sz + j, none⟩ = some v) := by
      intro i
      by_cases hlt : i < n
      · obtain ⟨cs', hl, hce, hj⟩ := hi i hlt
        obtain ⟨x, rfl, hp⟩ := hdec _ hce
        exact ⟨x, fun _ => ⟨hp, fun j v hv => (hj j (by have := (List.getElem?_eq_some_iff.1 hv).1; omega)).trans hv⟩⟩
      · exact ⟨default, fun h => absurd h hlt⟩
    refine ⟨(List.range n).map fun i => (hex i).choose, by simp, hn, hm, hA, fun i cs hc => ?_, fun x hx => ?_⟩
    · rw [List.map_map, List.getElem?_map] at hc
      obtain ⟨i', hi', rfl⟩ := Option.map_eq_some_iff.1 hc
      obtain ⟨hlt, rfl⟩ := List.getElem?_eq_some_iff.1 hi'
      simp only [List.length_range] at hlt
      simp only [List.getElem_range, Function.comp]
      exact ⟨b, off, rfl, hb, ((hex i).choose_spec hlt).2⟩
    · obtain ⟨i, hi', rfl⟩ := List.mem_map.1 hx
      exact ((hex i).choose_spec (List.mem_range.1 hi')).1
  · obtain rfl : n = 0 := by omega
    exact ⟨[], rfl, hn, hm, hA, RowsAt.nil, fun x hx => by simp at hx⟩
theorem str_eta (t : ByteArray) : (⟨t.data.toList.toArray⟩ : ByteArray) = t := by
  obtain ⟨⟨l⟩⟩ := t
  rfl
theorem str_size (t : ByteArray) : t.data.toList.length = t.size := by rw [Array.length_toList]; rfl
end Go.Proofs.YtjofjpmhokjhnaaDoor

namespace Go.Proofs.YtjofjpmhokjhnaaDoor
set_option maxRecDepth 20001
open Go.RowKit
set_option linter.unusedSimpArgs false
set_option linter.unusedVariables false

section
variable {w w' : World} {g : Nat} {cs part : List Value} {t : TypeId} {o' : Obj}
/-- what lies behind steps that go past it -/
theorem hpB (h : w.heap[g]? = some o') (hb : Below w.heap.size w w') : w'.heap[g]? = some o' := (hb.block g (Array.getElem?_eq_some_iff.1 h).1).trans h
theorem hpA (h : w.heap[g]? = some o') (o : Obj) : (w.alloc o).heap[g]? = some o' := (Below.heap_alloc w o g (Array.getElem?_eq_some_iff.1 h).1).trans h
theorem hpS (h : w.heap[g]? = some o') {p : Addr} (hp : g ≠ p.block) (u : Value) : (w.setCell p u).heap[g]? = some o' := (Below.heap_setCell w p u g hp).trans h
theorem hpR (h : w.heap[g]? = some o') {g' : Nat} (hp : g ≠ g') (vs : Array Value) : (w.setRow g' vs).heap[g]? = some o' := (setRow_other w g' g vs hp).trans h
theorem hpN (w : World) (o : Obj) {n : Nat} (hn : n = w.heap.size) : (w.alloc o).heap[n]? = some o := by subst hn; exact heap_alloc_new w o
/-- a whole row, and a part of it, as ranges -/
theorem rowAt (h : w.heap[g]? = some (.cells cs.toArray t (0, 0))) : w.rangeAt g 0 cs := fun j v hj => by
  rw [Nat.zero_add, cell_of_row w g j cs.toArray t (0, 0) h]; simpa using hj
theorem rowMid (h : w.heap[g]? = some (.cells cs.toArray t (0, 0))) (o : Nat) (hp : ∀ j v, part[j]? = some v → cs[o + j]? = some v) : w.rangeAt g o part := fun j v hj => by
  rw [cell_of_row w g (o + j) cs.toArray t (0, 0) h]; simpa using hp j v hj
theorem rowCell (h : w.heap[g]? = some (.cells cs.toArray t (0, 0))) (i : Nat) {v : Value} (hv : cs[i]? = some v) : w.cell? ⟨g, i, none⟩ = some v := by
  rw [cell_of_row w g i cs.toArray t (0, 0) h]; simpa using hv
theorem rowThere (h : w.heap[g]? = some (.cells cs.toArray t (0, 0))) {o n : Nat} (hn : o + n ≤ cs.length) : w.there g o n := fun j hj => by
  refine ⟨?_, by simp [World.frozen?, h]⟩
  rw [cell_of_row w g (o + j) cs.toArray t (0, 0) h, List.getElem?_toArray, List.getElem?_eq_getElem (by omega)]; rfl
theorem belowSet {B : Nat} {a w : World} (h : Below B a w) {g : Nat} {old cs : Array Value} {t : TypeId} (hg : w.heap[g]? = some (.cells old t (0, 0))) (hB : B ≤ g) : Below B a (w.setRow g cs) :=
  ⟨h.os, h.tape, h.output, by rw [setRow_size]; exact h.size, fun i hi => (setRow_other w g i cs (by omega)).trans (h.block i hi)⟩
end
/-- a guarded load that is carried out -/
theorem wpList_load_g {P : Program} {ops : Array Oper} {rest : List Oper} {op : Oper} {a : Act} {w : World} {Q : Exit → Act → World → Prop} (hw : Region.wanted op (yielded ops a.tmps) = true) (ty : TypeId) (x : Operand) (ho : op.op = .load ty x)
    (b o : Nat) (hx : a.eval x = .pointer (some ⟨b, o, none⟩)) (cs : List Value) (d : TypeDesc) (hc : w.rangeAt b o cs)
    (hu : P.underlying ty = some d) (hd : d.isRow = true) (hi : (P.info? ty).map (·.size) = some cs.length)
    (h : wpList P ops Q rest (a.put op.dst (.agg cs.toArray)) w) : wpList P ops Q (op :: rest) a w :=
  wpList_step fun _ hK => by rw [if_pos hw]; exact wp_load_mid ty x ho b o hx cs d hc hu hd hi (hK _ _ h)
/-- does a load, a store come next? -/
theorem isLoad {P : Program} {ops : Array Oper} {rest : List Oper} {op : Oper} {a : Act} {w : World} {Q : Exit → Act → World → Prop} {ty : TypeId} {x : Operand} (ho : op.op = .load ty x) (h : wpList P ops Q (op :: rest) a w) : wpList P ops Q (op :: rest) a w := h
theorem isStore {P : Program} {ops : Array Oper} {rest : List Oper} {op : Oper} {a : Act} {w : World} {Q : Exit → Act → World → Prop} {ty : TypeId} {x y : Operand} (ho : op.op = .store ty x y) (h : wpList P ops Q (op :: rest) a w) : wpList P ops Q (op :: rest) a w := h
/-- cells put into a row, from o on -/
def putAt (cs : List Value) : Nat → List Value → List Value
  | _, [] => cs
  | o, v :: r => putAt (cs.set o v) (o + 1) r
theorem hpC {g : Nat} {t : TypeId} : ∀ (vs : List Value) (o : Nat) (cs : List Value) (w : World), w.heap[g]? = some (.cells cs.toArray t (0, 0)) → (w.setCells g o vs).heap[g]? = some (.cells (putAt cs o vs).toArray t (0, 0))
  | [], _, _, _, h => h
  | v :: r, o, cs, w, h => by
    refine hpC r (o + 1) (cs.set o v) (w.setCell ⟨g, o, none⟩ v) ?_
    simp [World.setCell, Array.getElem?_modify, h]
theorem hpCo {g g' : Nat} {o' : Obj} (hp : g ≠ g') : ∀ (vs : List Value) (o : Nat) (w : World), w.heap[g]? = some o' → (w.setCells g' o vs).heap[g]? = some o'
  | [], _, _, h => h
  | v :: r, o, w, h => hpCo hp r (o + 1) (w.setCell ⟨g', o, none⟩ v) (hpS h (by exact hp) v)
theorem belowC {B g : Nat} {a : World} (hB : B ≤ g) : ∀ (vs : List Value) (o : Nat) (w : World), Below B a w → Below B a (w.setCells g o vs)
  | [], _, _, h => h
  | v :: r, o, w, h => belowC hB r (o + 1) (w.setCell ⟨g, o, none⟩ v) (h.setCell hB v)
theorem belowDrewS {B : Nat} {a w : World} (h : Below B a w) : Below B a w.drew := ⟨h.os, h.tape, h.output, h.size, h.block⟩
/-- element k of rows -/
theorem rowsGet {w : World} {B sz : Nat} {A : Option Addr} {α : Type} {enc : α → List Value} {ls : List α} (h : RowsAt w B A sz (ls.map enc)) {k : Nat} (hk : k < ls.length) : ∃ b off, A = some ⟨b, off, none⟩ ∧ b < B ∧ w.rangeAt b (off + k * sz) (enc ls[k]) := by
  obtain ⟨b, off, h1, h2, h3⟩ := h k (enc ls[k]) (by rw [List.getElem?_map, List.getElem?_eq_getElem hk]; rfl)
  exact ⟨b, off, h1, h2, fun j v hv => h3 j v hv⟩
theorem rangeB {w w' : World} {b o B : Nat} {cs : List Value} (h : w.rangeAt b o cs) (hb : Below B w w') (hB : b < B) : w'.rangeAt b o cs := fun j v hv => (hb.cell hB).trans (h j v hv)
theorem rangeCell {w : World} {b o : Nat} {cs : List Value} (h : w.rangeAt b o cs) (j : Nat) {v : Value} (hv : cs[j]? = some v) : w.cell? ⟨b, o + j, none⟩ = some v := h j v hv
theorem ownBelow {w w' : World} {base e size n : Nat} {v : Value} {xs : List Value} (h : w.ownsRow base e size v n xs) (hb : Below w.heap.size w w') : w'.ownsRow base e size v n xs := by
  rcases h.2 with h0 | ⟨g, cap, cur, hv, hb', hg, rest⟩
  · exact ⟨h.1, Or.inl h0⟩
  · exact ⟨h.1, Or.inr ⟨g, cap, cur, hv, hb', hpB hg hb, rest⟩⟩
end Go.Proofs.YtjofjpmhokjhnaaDoor
