/- The walks of layer 1's numbers. Condition: a number is a uint64. -/
import Derived.Test.YtjofjpmhokjhnaaDoorRows
import Derived.WalkKit
import Derived.WalkSpells
import Derived.WalkLawsBesides
import Derived.Lib.Hide
import Derived.Deep.DeepCutAuto
import Derived.Deep.DeepFit
import Derived.Deep.QuietTactic
import Derived.BigQuiet
import Derived.Deep.RegionHeld3
import Derived.Deep.AppendLies
import Derived.Deep.Draws
import Derived.Maps.AppendAt
import Derived.StillTailTactics
import Derived.Deep.DeepMust
import Derived.Deep.CutBlock
import Derived.IntWalk
import Derived.Outline
import Derived.ProofKit
import Derived.SliceStrings
import Derived.Deep.Slices
import Derived.Deep.Fields
import Derived.OpenShut
import Derived.Lib.SmallJoins
import Derived.Lib.OwnKind
import Derived.Laws.Externs
import Derived.Laws.Bits64
import Derived.Laws.Bits64b
namespace Go.Proofs.YtjofjpmhokjhnaaDoor
set_option maxRecDepth 20000
open Go.RowKit

theorem ret_int {k : IntKind} {a b : Int} (h : a = b) : Ending.returned (.int k a) = .returned (.int k b) := by rw [h]
theorem ret_bool {a b : Bool} (h : a = b) : Ending.returned (.bool a) = .returned (.bool b) := by rw [h]
theorem spotNone {w : World} {a : Addr} {v : Value} (h : w.cell? (a.add 0) = some v) : ∃ b off, a = ⟨b, off, none⟩ := by
  obtain ⟨b, off, s⟩ := a
  have h1 := World.cell?_spot h
  have h2 : s = none := h1
  exact ⟨b, off, by rw [h2]⟩

/-- the slice whose address is A reads, cell by cell, as xs; it lies below block B -/
def Rd (w : World) (B : Nat) (A : Option Addr) (xs : List Value) : Prop :=
  ∀ j u, xs[j]? = some u → ∃ b off, A = some ⟨b, off, none⟩ ∧ b < B ∧ w.cell? ⟨b, off + j, none⟩ = some u

section
variable {w w' : World} {B B' : Nat} {A : Option Addr} {xs : List Value}
theorem Rd.nil : Rd w B A [] := fun j u h => by simp at h
theorem Rd.at_ (h : Rd w B A xs) {k : Nat} (hk : k < xs.length) : ∃ b off, A = some ⟨b, off, none⟩ ∧ b < B ∧ w.cell? ⟨b, off + k, none⟩ = some xs[k] :=
  h k _ (List.getElem?_eq_getElem hk)
theorem Rd.keep (h : Rd w B A xs) (hk : ∀ p : Addr, p.block < B → w'.cell? p = w.cell? p) : Rd w' B A xs := fun j u hu => by
  obtain ⟨b, off, hA, hb, hc⟩ := h j u hu
  exact ⟨b, off, hA, hb, (hk _ hb).trans hc⟩
theorem Rd.more (h : Rd w B A xs) (hB : B ≤ B') : Rd w B' A xs := fun j u hu => by
  obtain ⟨b, off, hA, hb, hc⟩ := h j u hu
  exact ⟨b, off, hA, by omega, hc⟩
theorem Rd.below (h : Rd w B A xs) (hb : Below B w w') : Rd w' B A xs := h.keep fun _ hp => hb.cell hp
theorem Rd.belowM (h : Rd w B A xs) (hb : Below B' w w') (hB : B ≤ B') : Rd w' B A xs := h.keep fun _ hp => (hb.mono hB).cell hp
theorem Rd.drewN (h : Rd w B A xs) (k : Nat) : Rd (w.drewN k) B A xs := h
theorem Rd.drew (h : Rd w B A xs) : Rd w.drew B A xs := h
theorem Rd.alloc (h : Rd w B A xs) (hB : B ≤ w.heap.size) (o : Obj) : Rd (w.alloc o) B A xs := h.keep fun p hp => World.cell?_alloc_lt w o p (by omega)
theorem Rd.setCell (h : Rd w B A xs) {p : Addr} (hB : B ≤ p.block) (u : Value) : Rd (w.setCell p u) B A xs :=
  h.keep fun q hq => World.cell?_setCell_other w p q u (fun e => by subst e; omega)
theorem Rd.grown {row : Option Nat} (h : Rd w B A xs) (hg : w.grownBy w' row) (hB : B ≤ w.heap.size) (hr : ∀ g, row = some g → B ≤ g) : Rd w' B A xs :=
  h.keep fun p hp => World.cell?_of_block (hg.block p.block (by omega) (fun e => by have := hr _ e.symm; omega))
theorem Rd.cut (h : Rd w B A xs) {k cap : Nat} (hc : xs.length ≤ cap) : Rd w B (if cap = k then A else A.map (·.add k)) (xs.drop k) := fun j u hu => by
  rw [List.getElem?_drop] at hu
  obtain ⟨b, off, rfl, hb, hcell⟩ := h _ u hu
  have hl : k + j < xs.length := (List.getElem?_eq_some_iff.1 hu).1
  rw [if_neg (by omega)]
  refine ⟨b, off + k, ?_, hb, by rw [Nat.add_assoc]; exact hcell⟩
  show some ((⟨b, off, none⟩ : Addr).add k) = _
  rw [Addr.add_lit]
theorem Rd.take (h : Rd w B A xs) (k : Nat) : Rd w B A (xs.take k) := fun j u hu => by
  rw [List.getElem?_take] at hu
  split at hu
  · exact h j u hu
  · cases hu
theorem Rd.ofOwn {base e n c : Nat} (h : w.ownsRow base e 1 (.slice A n c) n xs) : Rd w w.heap.size A xs := fun j u hu => by
  have hj : j < n := by have := (List.getElem?_eq_some_iff.1 hu).1; have := h.1; omega
  rcases h.2 with ⟨_, rfl⟩ | ⟨g, cap, cur, hv, _, hg, _⟩
  · omega
  · have hA : A = some ⟨g, 0, none⟩ := by injection hv
    subst hA
    have := h.cells (g := g) rfl j u hu
    rw [Addr.add_lit] at this
    exact ⟨g, 0, rfl, (Array.getElem?_eq_some_iff.1 hg).1, by simpa using this⟩
end
/-- the shape of a slice value that is owned -/
theorem ownShape {w : World} {base e size n : Nat} {v : Value} {xs : List Value} (h : w.ownsRow base e size v n xs) : ∃ A c, v = .slice A n c ∧ n ≤ c ∧ (A = none → n = 0 ∧ c = 0) ∧ c ≤ maxLen := by
  rcases h.2 with ⟨rfl, rfl⟩ | ⟨g, cap, cur, rfl, _, _, hc, hm, _⟩
  · exact ⟨none, 0, rfl, Nat.le_refl _, fun _ => ⟨rfl, rfl⟩, by unfold maxLen; omega⟩
  · exact ⟨_, cap, rfl, hc, fun h => by simp at h, hm⟩
theorem ownMore {w : World} {base base' e size n : Nat} {v : Value} {xs : List Value} (h : w.ownsRow base e size v n xs) (hb : base' ≤ base) : w.ownsRow base' e size v n xs := by
  refine ⟨h.1, ?_⟩
  rcases h.2 with h2 | ⟨g, cap, cur, hv, hg, r⟩
  · exact .inl h2
  · exact .inr ⟨g, cap, cur, hv, by omega, r⟩

theorem belowDrewN {B : Nat} {a w : World} (h : Below B a w) (n : Nat) : Below B a (w.drewN n) := ⟨h.os, h.tape, h.output, h.size, h.block⟩

/-! ### append of one cell: the new cell lies in a block of its own -/
theorem oneAt (w : World) (v : Value) (e : TypeId) : ∀ j u, ([v] : List Value)[j]? = some u → (w.alloc (.cells #[v] e)).cell? ((⟨w.heap.size, 0, none⟩ : Addr).add j) = some u := by
  intro j u hj
  match j, hj with
  | 0, hj =>
    simp at hj; subst hj
    simp [Addr.add]

/-! ### arguments as they come in -/
open Go.ChangeShapes Go.WideShapes Go.ChangeAt
/-- a value that came in as an argument of type t -/
structure Arg (W : World) (t : TypeId) (v : Value) : Prop where
  ok : ∃ base, Value.okWide Tryd.prog W .any base t v
  rd : ∃ (H : Type) (enc : TypeId × Value → H) (d : DataW H) (ps : List MemPlace), DataW.Trod enc Tryd.prog W 0 (fun _ => true) true t v d ps

section
variable {W : World} {t : TypeId} {v : Value}
theorem Arg.int {k : IntKind} (h : Arg W t v) (ht : Tryd.prog.underlying t = some (.int k)) : ∃ a, v = .int k a ∧ (Lit.int k a).wf = true := by
  obtain ⟨⟨base, h1⟩, H, enc, d, ps, h2⟩ := h
  obtain ⟨a, rfl, _, _, w⟩ := Go.ChangeShapes.open_int ht h1 h2
  exact ⟨a, rfl, w⟩
theorem Arg.u64 (h : Arg W t v) (ht : Tryd.prog.underlying t = some (.int .u64)) : ∃ a : Nat, v = .int .u64 a ∧ a < 18446744073709551616 := by
  obtain ⟨a, rfl, w⟩ := h.int ht
  have := bounds_u64 w
  exact ⟨a.toNat, by rw [Int.toNat_of_nonneg this.1], by omega⟩
theorem Arg.u32 (h : Arg W t v) (ht : Tryd.prog.underlying t = some (.int .u32)) : ∃ a : Nat, v = .int .u32 a ∧ a < 4294967296 := by
  obtain ⟨a, rfl, w⟩ := h.int ht
  have := bounds_u32 w
  exact ⟨a.toNat, by rw [Int.toNat_of_nonneg this.1], by omega⟩
theorem Arg.u8 (h : Arg W t v) (ht : Tryd.prog.underlying t = some (.int .u8)) : ∃ a : Nat, v = .int .u8 a ∧ a < 256 := by
  obtain ⟨a, rfl, w⟩ := h.int ht
  have := bounds_u8 w
  exact ⟨a.toNat, by rw [Int.toNat_of_nonneg this.1], by omega⟩
theorem Arg.i64 (h : Arg W t v) (ht : Tryd.prog.underlying t = some (.int .i64)) : ∃ a : Int, v = .int .i64 a ∧ -9223372036854775808 ≤ a ∧ a ≤ 9223372036854775807 := by
  obtain ⟨a, rfl, w⟩ := h.int ht
  have := bounds_i64 w
  exact ⟨a, rfl, by omega, by omega⟩
theorem Arg.bool (h : Arg W t v) (ht : Tryd.prog.underlying t = some .bool) : ∃ a, v = .bool a := by
  obtain ⟨⟨base, h1⟩, _⟩ := h
  exact Go.WideShapes.okWide_bool ht h1
theorem Arg.string (h : Arg W t v) (ht : Tryd.prog.underlying t = some .string) : ∃ s : ByteArray, v = .string s ∧ s.size ≤ maxLen := by
  obtain ⟨⟨base, h1⟩, H, enc, d, ps, h2⟩ := h
  obtain ⟨s, rfl, _, _, w⟩ := Go.ChangeMaps.open_string ht h1 h2
  exact ⟨s, rfl, w⟩
/-- a slice of integers: its numbers; it lies below the heap's end -/
theorem Arg.ints {e : TypeId} {k : IntKind} (h : Arg W t v) (ht : Tryd.prog.underlying t = some (.slice e)) (he : Tryd.prog.underlying e = some (.int k)) (hc : Tryd.prog.cellsOf e = 1) :
    ∃ (A : Option Addr) (n c : Nat) (zs : List Int), v = .slice A n c ∧ n ≤ c ∧ c ≤ maxLen ∧ (A = none → n = 0 ∧ c = 0) ∧ zs.length = n ∧ Rd W W.heap.size A (zs.map (Value.int k)) ∧ ∀ z ∈ zs, (Lit.int k z).wf = true := by
  obtain ⟨⟨base, h1⟩, H, enc, d, ps, h2⟩ := h
  obtain ⟨A, n, c, rfl⟩ := Go.WideShapes.okWide_slice ht h1
  obtain ⟨fuel, hf⟩ := h2
  rcases open_ints ht he hc hf with ⟨hcs, _⟩ | ⟨x, l, cap, zs, hcs, _, hl, hm, hz, _, hcell, hwz⟩
  · simp [Value.cells] at hcs
    obtain ⟨rfl, rfl, rfl⟩ := hcs
    exact ⟨none, 0, 0, [], rfl, by omega, by simp [maxLen], fun _ => ⟨rfl, rfl⟩, rfl, Rd.nil, by simp⟩
  · simp [Value.cells] at hcs
    obtain ⟨rfl, rfl, rfl⟩ := hcs
    have hz' : zs.length = c := by simpa using hz
    refine ⟨_, n, c, zs.take n, rfl, hl, hm, by simp, by simp; omega, ?_, fun z hz => hwz z (List.mem_of_mem_take hz)⟩
    intro j u hu
    have hj : j < n := by have := (List.getElem?_eq_some_iff.1 hu).1; simp at this; omega
    have h0 := hcell 0 (by omega)
    obtain ⟨b, off, rfl⟩ := spotNone h0
    have hj' := hcell j (by omega)
    rw [Addr.add_lit] at hj'
    refine ⟨b, off, rfl, World.block_lt_of_cell? W _ hj', ?_⟩
    rw [hj']
    rw [List.getElem?_map, List.getElem?_take, if_pos hj] at hu
    have : zs[j]? = some (zs.getD j 0) := by
      rw [List.getD_eq_getElem?_getD, List.getElem?_eq_getElem (show j < zs.length by omega)]; rfl
    rw [this] at hu
    simpa using hu
end
theorem cellB {W W' : World} {p : Addr} {v : Value} (hb : Below W.heap.size W W') (h : W.cell? p = some v) : W'.cell? p = some v := (hb.cell (World.block_lt_of_cell? W _ h)).trans h
theorem cellA {W : World} {p : Addr} {v : Value} (o : Obj) (h : W.cell? p = some v) : (W.alloc o).cell? p = some v := (World.cell?_alloc_lt W o p (World.block_lt_of_cell? W _ h)).trans h
theorem own_ne {w : World} {B e s n B' e' s' n' : Nat} {u v : Value} {xs ys : List Value} (hu : w.ownsRow B e s u n xs) (hv : w.ownsRow B' e' s' v n' ys) (hne : e' ≠ e) : v.ownBlock = none ∨ v.ownBlock ≠ u.ownBlock := by
  cases hb : v.ownBlock with
  | none => exact Or.inl rfl
  | some g =>
    refine Or.inr fun h => ?_
    obtain ⟨c1, f1, h1⟩ := Lib.ownsRow_kind hv g hb
    obtain ⟨c2, f2, h2⟩ := Lib.ownsRow_kind hu g (h ▸ rfl)
    rw [h1] at h2
    injection h2 with h2
    injection h2 with _ h3
    exact hne h3
end Go.Proofs.YtjofjpmhokjhnaaDoor

namespace Go.Proofs.YtjofjpmhokjhnaaDoor
set_option maxRecDepth 20001
open Go.RowKit Go.ChangeShapes Go.WideShapes Go.ChangeAt Go.Deep
set_option linter.unusedSimpArgs false
set_option linter.unusedVariables false

/-- cells that read as a value of type t -/
def Cel (W : World) (t : TypeId) (cs : List Value) : Prop :=
  ∃ (H : Type) (enc : TypeId × Value → H) (fuel : Nat) (x : DataW H × List MemPlace), DataW.trod enc Tryd.prog W 0 (fun _ => true) true fuel t cs = some x

section
variable {W : World} {t : TypeId} {v : Value} {cs : List Value}
theorem Arg.struct {fs : Array Field} (h : Arg W t v) (ht : Tryd.prog.underlying t = some (.struct fs)) : ∃ cs : Array Value, v = .agg cs ∧ Cel W t cs.toList := by
  obtain ⟨⟨base, h1⟩, H, enc, d, ps, fuel, h2⟩ := h
  obtain ⟨cs, rfl, _⟩ := okWide_struct ht h1
  exact ⟨cs, rfl, H, enc, fuel, _, h2⟩
theorem Arg.array {n : Nat} {e : TypeId} (h : Arg W t v) (ht : Tryd.prog.underlying t = some (.array n e)) : ∃ cs : Array Value, v = .agg cs ∧ Cel W t cs.toList := by
  obtain ⟨⟨base, h1⟩, H, enc, d, ps, fuel, h2⟩ := h
  simp only [Value.okWide, ht] at h1
  obtain ⟨cs, rfl, _⟩ := h1
  exact ⟨cs, rfl, H, enc, fuel, _, h2⟩
theorem Arg.slice {e : TypeId} (h : Arg W t v) (ht : Tryd.prog.underlying t = some (.slice e)) : ∃ (A : Option Addr) (n c : Nat), v = .slice A n c ∧ Cel W t [.slice A n c] := by
  obtain ⟨⟨base, h1⟩, H, enc, d, ps, fuel, h2⟩ := h
  obtain ⟨A, n, c, rfl⟩ := okWide_slice ht h1
  exact ⟨A, n, c, rfl, H, enc, fuel, _, h2⟩

theorem Cel.int {k : IntKind} (h : Cel W t cs) (ht : Tryd.prog.underlying t = some (.int k)) : ∃ a, cs = [.int k a] ∧ (Lit.int k a).wf = true := by
  obtain ⟨H, enc, fuel, x, h⟩ := h
  obtain ⟨a, h1, _, h2⟩ := DataW.trod_int ht h
  exact ⟨a, h1, h2⟩
theorem Cel.u64 (h : Cel W t cs) (ht : Tryd.prog.underlying t = some (.int .u64)) : ∃ a : Nat, cs = [.int .u64 (a : Int)] ∧ a < 18446744073709551616 := by
  obtain ⟨a, rfl, w⟩ := h.int ht
  have := bounds_u64 w
  exact ⟨a.toNat, by rw [Int.toNat_of_nonneg this.1], by omega⟩
theorem Cel.u32 (h : Cel W t cs) (ht : Tryd.prog.underlying t = some (.int .u32)) : ∃ a : Nat, cs = [.int .u32 (a : Int)] ∧ a < 4294967296 := by
  obtain ⟨a, rfl, w⟩ := h.int ht
  have := bounds_u32 w
  exact ⟨a.toNat, by rw [Int.toNat_of_nonneg this.1], by omega⟩
theorem Cel.u8 (h : Cel W t cs) (ht : Tryd.prog.underlying t = some (.int .u8)) : ∃ a : Nat, cs = [.int .u8 (a : Int)] ∧ a < 256 := by
  obtain ⟨a, rfl, w⟩ := h.int ht
  have := bounds_u8 w
  exact ⟨a.toNat, by rw [Int.toNat_of_nonneg this.1], by omega⟩
theorem Cel.i64 (h : Cel W t cs) (ht : Tryd.prog.underlying t = some (.int .i64)) : ∃ a : Int, cs = [.int .i64 a] ∧ -9223372036854775808 ≤ a ∧ a ≤ 9223372036854775807 := by
  obtain ⟨a, rfl, w⟩ := h.int ht
  have := bounds_i64 w
  exact ⟨a, rfl, by omega, by omega⟩
theorem Cel.bool (h : Cel W t cs) (ht : Tryd.prog.underlying t = some .bool) : ∃ b, cs = [.bool b] := by
  obtain ⟨H, enc, fuel, x, h⟩ := h
  obtain ⟨a, h1, _⟩ := DataW.trod_bool ht h
  exact ⟨a, h1⟩
theorem Cel.string (h : Cel W t cs) (ht : Tryd.prog.underlying t = some .string) : ∃ s : ByteArray, cs = [.string s] ∧ s.size ≤ 9223372036854775807 := by
  obtain ⟨H, enc, fuel, x, h⟩ := h
  obtain ⟨a, h1, _, h2⟩ := DataW.trod_string ht h
  exact ⟨a, h1, by unfold maxLen at h2; omega⟩
theorem Cel.len {fs : Array Field} (h : Cel W t cs) (ht : Tryd.prog.underlying t = some (.struct fs)) : cs.length = Tryd.prog.cellsOf t := by
  obtain ⟨H, enc, fuel, x, h⟩ := h
  obtain ⟨_, _, _, _, h1, _⟩ := DataW.trod_struct ht h
  exact h1
theorem Cel.lenA {n : Nat} {e : TypeId} (h : Cel W t cs) (ht : Tryd.prog.underlying t = some (.array n e)) : cs.length = Tryd.prog.cellsOf t := by
  obtain ⟨H, enc, fuel, x, h⟩ := h
  obtain ⟨_, _, _, _, h1, _⟩ := DataW.trod_array ht h
  exact h1
theorem Cel.field {fs : Array Field} (h : Cel W t cs) (ht : Tryd.prog.underlying t = some (.struct fs)) (j : Nat) (f : Field) (hj : fs[j]? = some f) : Cel W f.type ((cs.drop f.offset).take (Tryd.prog.cellsOf f.type)) := by
  obtain ⟨H, enc, fuel, x, h⟩ := h
  obtain ⟨xs, n, _, _, _, hl, hf⟩ := DataW.trod_struct ht h
  have hjl : j < xs.length := by rw [hl]; exact (Array.getElem?_eq_some_iff.1 hj).1
  have h1 := hf j f hj
  rw [List.getElem?_eq_getElem hjl] at h1
  exact ⟨H, enc, n, _, h1⟩
/-- a field of one cell -/
theorem Cel.field1 {fs : Array Field} (h : Cel W t cs) (ht : Tryd.prog.underlying t = some (.struct fs)) (j o : Nat) (ft : TypeId) (f : Field) (hj : fs[j]? = some f) (ho : f.offset = o) (hty : f.type = ft) (hk : Tryd.prog.cellsOf ft = 1) (v : Value) (hv : cs[o]? = some v) : Cel W ft [v] := by
  subst ho; subst hty
  have h1 := h.field ht j f hj
  rw [hk] at h1
  have hl := (List.getElem?_eq_some_iff.1 hv).1
  rw [List.drop_eq_getElem_cons hl] at h1
  have e : cs[f.offset] = v := (List.getElem?_eq_some_iff.1 hv).2
  rw [e] at h1
  exact h1
theorem Cel.elem {n : Nat} {e : TypeId} (h : Cel W t cs) (ht : Tryd.prog.underlying t = some (.array n e)) (i : Nat) (hi : i < n) : Cel W e ((cs.drop (i * Tryd.prog.cellsOf e)).take (Tryd.prog.cellsOf e)) := by
  obtain ⟨H, enc, fuel, x, h⟩ := h
  obtain ⟨xs, m, _, _, _, hl, hf⟩ := DataW.trod_array ht h
  have h1 := hf i hi
  rw [List.getElem?_eq_getElem (show i < xs.length by omega)] at h1
  exact ⟨H, enc, m, _, h1⟩
/-- the cells of a slice that came in: element i, cell by cell -/
theorem Cel.slice {e : TypeId} {A : Option Addr} {n c : Nat} (h : Cel W t [.slice A n c]) (ht : Tryd.prog.underlying t = some (.slice e)) :
    (A = none ∧ n = 0 ∧ c = 0) ∨ (n ≤ c ∧ c ≤ maxLen ∧ ∃ a, A = some a ∧ ∀ i, i < n → ∃ cs' : List Value, cs'.length = Tryd.prog.cellsOf e ∧ Cel W e cs' ∧ ∀ j, j < Tryd.prog.cellsOf e → W.cell? ((a.add (i * Tryd.prog.cellsOf e)).add j) = cs'[j]?) := by
  obtain ⟨H, enc, fuel, x, h⟩ := h
  rcases open_slice ht h with ⟨h1, _⟩ | ⟨a, len, cap, m, k, D, Pl, h1, _, hl, hm, hmm, _, hi⟩
  · simp at h1
    exact Or.inl h1
  · simp at h1
    obtain ⟨rfl, rfl, rfl⟩ := h1
    refine Or.inr ⟨hl, hm, a, rfl, fun i hi' => ?_⟩
    obtain ⟨cs', hc, ht'⟩ := hi i (by simp at hmm; omega)
    obtain ⟨_, hcl, hat⟩ := World.cells?_some hc
    exact ⟨cs', hcl, ⟨H, enc, k, _, ht'⟩, hat⟩
/-- the same, the address written out -/
theorem Cel.sliceAt {e : TypeId} {A : Option Addr} {n c : Nat} (h : Cel W t [.slice A n c]) (ht : Tryd.prog.underlying t = some (.slice e)) (sz : Nat) (hsz : Tryd.prog.cellsOf e = sz) (hpos : 0 < sz) :
    n ≤ c ∧ c ≤ maxLen ∧ (A = none → n = 0 ∧ c = 0) ∧ (0 < n → ∃ b off, A = some ⟨b, off, none⟩ ∧ b < W.heap.size ∧ ∀ i, i < n → ∃ cs' : List Value, cs'.length = sz ∧ Cel W e cs' ∧ ∀ j, j < sz → W.cell? ⟨b, off + i * sz + j, none⟩ = cs'[j]?) := by
  subst hsz
  rcases h.slice ht with ⟨rfl, rfl, rfl⟩ | ⟨hn, hc, a, rfl, hi⟩
  · exact ⟨Nat.le_refl _, by simp [maxLen], fun _ => ⟨rfl, rfl⟩, fun h => absurd h (by omega)⟩
  · refine ⟨hn, hc, fun h => by simp at h, fun h0 => ?_⟩
    obtain ⟨cs0, hl0, _, hat0⟩ := hi 0 h0
    have h00 := hat0 0 hpos
    rw [List.getElem?_eq_getElem (by omega)] at h00
    have e0 : (a.add (0 * Tryd.prog.cellsOf e)) = a := by simp [Addr.add]
    rw [e0] at h00
    obtain ⟨b, off, rfl⟩ := spotNone h00
    refine ⟨b, off, rfl, ?_, fun i hi' => ?_⟩
    · rw [Addr.add_lit] at h00
      exact World.block_lt_of_cell? W _ h00
    · obtain ⟨cs', hl, hc', hat⟩ := hi i hi'
      refine ⟨cs', hl, hc', fun j hj => ?_⟩
      have := hat j hj
      rw [Addr.add_lit, Addr.add_lit] at this
      exact this
end

end Go.Proofs.YtjofjpmhokjhnaaDoor

namespace Go.Proofs.YtjofjpmhokjhnaaDoor
set_option maxRecDepth 20001
open Go.RowKit Go.ChangeShapes Go.WideShapes Go.ChangeAt Go.Deep
set_option linter.unusedSimpArgs false
set_option linter.unusedVariables false

/-- the cells at A hold rows of k cells each, all below B -/
def RowsAt (w : World) (B : Nat) (A : Option Addr) (k : Nat) (ls : List (List Value)) : Prop :=
  ∀ i cs, ls[i]? = some cs → ∃ b off, A = some ⟨b, off, none⟩ ∧ b < B ∧ ∀ j v, cs[j]? = some v → w.cell? ⟨b, off + i * k + j, none⟩ = some v
section
variable {w w' : World} {B B' k : Nat} {A : Option Addr} {ls : List (List Value)}
theorem RowsAt.nil : RowsAt w B A k [] := fun i cs h => by simp at h
theorem RowsAt.keep (h : RowsAt w B A k ls) (hk : ∀ p : Addr, p.block < B → w'.cell? p = w.cell? p) : RowsAt w' B A k ls := fun i cs hi => by
  obtain ⟨b, off, hA, hb, hc⟩ := h i cs hi
  exact ⟨b, off, hA, hb, fun j v hj => (hk _ hb).trans (hc j v hj)⟩
theorem RowsAt.below (h : RowsAt w B A k ls) (hb : Below B' w w') (hB : B ≤ B') : RowsAt w' B A k ls := h.keep fun p hp => hb.cell (Nat.lt_of_lt_of_le hp hB)
theorem RowsAt.more (h : RowsAt w B A k ls) (hB : B ≤ B') : RowsAt w B' A k ls := fun i cs hi => by
  obtain ⟨b, off, hA, hb, hc⟩ := h i cs hi
  exact ⟨b, off, hA, by omega, hc⟩
theorem RowsAt.alloc (h : RowsAt w B A k ls) (hB : B ≤ w.heap.size) (o : Obj) : RowsAt (w.alloc o) B A k ls := h.keep fun p hp => World.cell?_alloc_lt w o p (by omega)
theorem RowsAt.drewN (h : RowsAt w B A k ls) (n : Nat) : RowsAt (w.drewN n) B A k ls := h
theorem RowsAt.grown {g : Nat} (h : RowsAt w B A k ls) (hg : w.grownBy w' (some g)) (hB : B ≤ g) (hs : B ≤ w.heap.size) : RowsAt w' B A k ls := fun i cs hi => by
  obtain ⟨b, off, hA, hb, hc⟩ := h i cs hi
  exact ⟨b, off, hA, hb, fun j v hj => hg.cell (hc j v hj) (by simp; omega)⟩
/-- element i -/
theorem RowsAt.at_ (h : RowsAt w B A k ls) {i : Nat} (hi : i < ls.length) : ∃ b off, A = some ⟨b, off, none⟩ ∧ b < B ∧ ∀ j v, ls[i][j]? = some v → w.cell? ⟨b, off + i * k + j, none⟩ = some v := h i _ (List.getElem?_eq_getElem hi)
end
/-- a cell of a slice's type is a slice -/
theorem Cel.isSlice {W : World} {t e : TypeId} {v : Value} (h : Cel W t [v]) (ht : Tryd.prog.underlying t = some (.slice e)) : ∃ (A : Option Addr) (n c : Nat), v = .slice A n c := by
  obtain ⟨H, enc, fuel, x, h⟩ := h
  rcases open_slice ht h with ⟨h1, _⟩ | ⟨a, len, cap, m, k, D, Pl, h1, _⟩
  · simp at h1; exact ⟨_, _, _, h1⟩
  · simp at h1; exact ⟨_, _, _, h1⟩
/-- a slice that came in reads as rows of cells, and each of them as what its cells read as -/
theorem Cel.rows {α : Type} [Inhabited α] {W : World} {t e : TypeId} {A : Option Addr} {n c sz : Nat} (enc : α → List Value) (P : α → Prop) (h : Cel W t [.slice A n c]) (ht : Tryd.prog.underlying t = some (.slice e))
    (hsz : Tryd.prog.cellsOf e = sz) (hpos : 0 < sz) (hdec : ∀ cs, Cel W e cs → ∃ x, cs = enc x ∧ P x) :
    ∃ ls : List α, ls.length = n ∧ n ≤ c ∧ c ≤ maxLen ∧ (A = none → n = 0 ∧ c = 0) ∧ RowsAt W W.heap.size A sz (ls.map enc) ∧ ∀ x ∈ ls, P x := by
  obtain ⟨hn, hm, hA, hat⟩ := h.sliceAt ht sz hsz hpos
  by_cases h0 : 0 < n
  · obtain ⟨b, off, rfl, hb, hi⟩ := hat h0
    have hex : ∀ i, ∃ x : α, i < n → (P x ∧ ∀ j v, (enc x)[j]? = some v → W.cell? ⟨b, off + i * sz + j, none⟩ = some v) := by
      intro i
      by_cases hlt : i < n
      · obtain ⟨cs', hl, hce, hj⟩ := hi i hlt
        obtain ⟨x, rfl, hp⟩ := hdec _ hce
        exact ⟨x, fun _ => ⟨hp, fun j v hv => (hj j (by have := (List.getElem?_eq_some_iff.1 hv).1; omega)).trans hv⟩⟩
      · exact ⟨default, fun h => absurd h hlt⟩
    refine ⟨(List.range n).map fun i => (hex i).choose, by simp, hn, hm, hA, fun i cs hc => ?_, fun x hx => ?_⟩
    · rw [List.map_map, List.getElem?_map] at hc
      obtain ⟨i', hi', rfl⟩ := Option.map_eq_some_iff.1 hc
      obtain ⟨hlt, rfl⟩ := List.getElem?_eq_some_iff.1 hi'
      simp only [List.length_range] at hlt
      simp only [List.getElem_range, Function.comp]
      exact ⟨b, off, rfl, hb, ((hex i).choose_spec hlt).2⟩
    · obtain ⟨i, hi', rfl⟩ := List.mem_map.1 hx
      exact ((hex i).choose_spec (List.mem_range.1 hi')).1
  · obtain rfl : n = 0 := by omega
    exact ⟨[], rfl, hn, hm, hA, RowsAt.nil, fun x hx => by simp at hx⟩
theorem str_eta (t : ByteArray) : (⟨t.data.toList.toArray⟩ : ByteArray) = t := by
  obtain ⟨⟨l⟩⟩ := t
  rfl
theorem str_size (t : ByteArray) : t.data.toList.length = t.size := by rw [Array.length_toList]; rfl
end Go.Proofs.YtjofjpmhokjhnaaDoor

namespace Go.Proofs.YtjofjpmhokjhnaaDoor
set_option maxRecDepth 20001
open Go.RowKit
set_option linter.unusedSimpArgs false
set_option linter.unusedVariables false

namespace V
/-- are the bits a NaN's: a number that isn't equal to itself -/
def nan (b : Nat) : Bool := FloatKind.f64.format.order b b != some Ordering.eq
def ncanon (b : Nat) : Nat := bif nan b then 9221120237041090560 else b
end V

/-- the bits as a float -/
theorem run_frombits (b : Nat) (w : World) : (callFunc 123 #[.int .u64 b]).run Tryd.prog w = .ok (.value (.float .f64 b)) w := by
  rw [run_callFunc_extern Tryd.func123 (by kernel_rfl) (by kernel_rfl) (by kernel_rfl) (e := Go.Extern.MathFloatBits.float64frombits) (by kernel_rfl)]
  rfl

set_option maxHeartbeats 800000 in
theorem ncanon_any (b : Nat) (w : World) :
    Calls Tryd.prog 104 #[.int .u64 b] w fun e w' => e = .returned (.int .u64 (V.ncanon b)) ∧ w' = w := by
  have hfb := run_frombits b
  obtain ⟨p, hp⟩ : ∃ p, p = V.ncanon b := ⟨_, rfl⟩
  rw [← hp]
  have HP := Lib.hid hp
  clear hp
  go_enter Tryd.func104, Tryd.ntmps104
  go_wp2
  all_goals
    rename_i h
    go_ret
    refine ⟨ret_int ?_, rfl⟩
    rw [HP.out]
    unfold V.ncanon V.nan
    rw [h]
    rfl

end Go.Proofs.YtjofjpmhokjhnaaDoor
