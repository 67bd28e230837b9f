/- Small words for the walks of this seat: what a slice reads as, what is kept over steps of the world. No condition; nothing of the program but its numbers. -/
import Derived.Test.YtjofjpmhokjhnaaDoorRows
import Derived.WalkKit
import Derived.WalkSpells
import Derived.WalkLawsBesides
import Derived.Lib.Hide
import Derived.Deep.DeepCutAuto
import Derived.Deep.DeepFit
import Derived.Deep.QuietTactic
import Derived.BigQuiet
import Derived.Deep.RegionHeld3
import Derived.Deep.AppendLies
import Derived.Deep.Draws
import Derived.Maps.AppendAt
import Derived.StillTailTactics
import Derived.Deep.DeepMust
import Derived.Deep.CutBlock
import Derived.IntWalk
import Derived.Outline
import Derived.ProofKit
import Derived.SliceStrings
import Derived.Deep.Slices
import Derived.Deep.Fields
import Derived.OpenShut
import Derived.Lib.SmallJoins
import Derived.Lib.OwnKind
namespace Go.Proofs.YtjofjpmhokjhnaaDoor
set_option maxRecDepth 20000
open Go.RowKit

theorem ret_int {k : IntKind} {a b : Int} (h : a = b) : Ending.returned (.int k a) = .returned (.int k b) := by rw [h]
theorem ret_bool {a b : Bool} (h : a = b) : Ending.returned (.bool a) = .returned (.bool b) := by rw [h]
theorem ret_of {a b : Value} (h : a = b) : Ending.returned a = .returned b := by rw [h]
theorem int_of {k : IntKind} {a b : Int} (h : a = b) : Value.int k a = Value.int k b := by rw [h]
theorem hide_ {p : Prop} (h : p) : Hid p := h

theorem blockAdd (a : Addr) (n : Nat) : (a.add n).block = a.block := by unfold Addr.add; split <;> rfl
theorem addAdd (a : Addr) (i j : Nat) : (a.add i).add j = a.add (i + j) := by
  unfold Addr.add
  by_cases hi : i = 0 <;> by_cases hj : j = 0 <;> simp [hi, hj, Nat.add_assoc]
theorem spotNone {w : World} {a : Addr} {v : Value} (h : w.cell? (a.add 0) = some v) : ∃ b off, a = ⟨b, off, none⟩ := by
  obtain ⟨b, off, s⟩ := a
  have h1 := World.cell?_spot h
  have h2 : s = none := h1
  exact ⟨b, off, by rw [h2]⟩

/-- the slice whose address is A reads, cell by cell, as xs; it lies below block B -/
def Rd (w : World) (B : Nat) (A : Option Addr) (xs : List Value) : Prop :=
  ∀ j u, xs[j]? = some u → ∃ b off, A = some ⟨b, off, none⟩ ∧ b < B ∧ w.cell? ⟨b, off + j, none⟩ = some u

section
variable {w w' : World} {B B' : Nat} {A : Option Addr} {xs : List Value}
theorem Rd.nil : Rd w B A [] := fun j u h => by simp at h
theorem Rd.at_ (h : Rd w B A xs) {k : Nat} (hk : k < xs.length) : ∃ b off, A = some ⟨b, off, none⟩ ∧ b < B ∧ w.cell? ⟨b, off + k, none⟩ = some xs[k] :=
  h k _ (List.getElem?_eq_getElem hk)
theorem Rd.keep (h : Rd w B A xs) (hk : ∀ p : Addr, p.block < B → w'.cell? p = w.cell? p) : Rd w' B A xs := fun j u hu => by
  obtain ⟨b, off, hA, hb, hc⟩ := h j u hu
  exact ⟨b, off, hA, hb, (hk _ hb).trans hc⟩
theorem Rd.more (h : Rd w B A xs) (hB : B ≤ B') : Rd w B' A xs := fun j u hu => by
  obtain ⟨b, off, hA, hb, hc⟩ := h j u hu
  exact ⟨b, off, hA, by omega, hc⟩
theorem Rd.below (h : Rd w B A xs) (hb : Below B w w') : Rd w' B A xs := h.keep fun _ hp => hb.cell hp
theorem Rd.belowM (h : Rd w B A xs) (hb : Below B' w w') (hB : B ≤ B') : Rd w' B A xs := h.keep fun _ hp => (hb.mono hB).cell hp
theorem Rd.drewN (h : Rd w B A xs) (k : Nat) : Rd (w.drewN k) B A xs := h
theorem Rd.drew (h : Rd w B A xs) : Rd w.drew B A xs := h
theorem Rd.alloc (h : Rd w B A xs) (hB : B ≤ w.heap.size) (o : Obj) : Rd (w.alloc o) B A xs := h.keep fun p hp => World.cell?_alloc_lt w o p (by omega)
theorem Rd.setCell (h : Rd w B A xs) {p : Addr} (hB : B ≤ p.block) (u : Value) : Rd (w.setCell p u) B A xs :=
  h.keep fun q hq => World.cell?_setCell_other w p q u (fun e => by subst e; omega)
theorem Rd.grown {row : Option Nat} (h : Rd w B A xs) (hg : w.grownBy w' row) (hB : B ≤ w.heap.size) (hr : ∀ g, row = some g → B ≤ g) : Rd w' B A xs :=
  h.keep fun p hp => World.cell?_of_block (hg.block p.block (by omega) (fun e => by have := hr _ e.symm; omega))
theorem Rd.cut (h : Rd w B A xs) {k cap : Nat} (hc : xs.length ≤ cap) : Rd w B (if cap = k then A else A.map (·.add k)) (xs.drop k) := fun j u hu => by
  rw [List.getElem?_drop] at hu
  obtain ⟨b, off, rfl, hb, hcell⟩ := h _ u hu
  have hl : k + j < xs.length := (List.getElem?_eq_some_iff.1 hu).1
  rw [if_neg (by omega)]
  refine ⟨b, off + k, ?_, hb, by rw [Nat.add_assoc]; exact hcell⟩
  show some ((⟨b, off, none⟩ : Addr).add k) = _
  rw [Addr.add_lit]
theorem Rd.take (h : Rd w B A xs) (k : Nat) : Rd w B A (xs.take k) := fun j u hu => by
  rw [List.getElem?_take] at hu
  split at hu
  · exact h j u hu
  · cases hu
theorem Rd.ofOwn {base e n c : Nat} (h : w.ownsRow base e 1 (.slice A n c) n xs) : Rd w w.heap.size A xs := fun j u hu => by
  have hj : j < n := by have := (List.getElem?_eq_some_iff.1 hu).1; have := h.1; omega
  rcases h.2 with ⟨_, rfl⟩ | ⟨g, cap, cur, hv, _, hg, _⟩
  · omega
  · have hA : A = some ⟨g, 0, none⟩ := by injection hv
    subst hA
    have := h.cells (g := g) rfl j u hu
    rw [Addr.add_lit] at this
    exact ⟨g, 0, rfl, (Array.getElem?_eq_some_iff.1 hg).1, by simpa using this⟩
end
/-- the shape of a slice value that is owned -/
theorem ownShape {w : World} {base e size n : Nat} {v : Value} {xs : List Value} (h : w.ownsRow base e size v n xs) : ∃ A c, v = .slice A n c ∧ n ≤ c ∧ (A = none → n = 0 ∧ c = 0) ∧ c ≤ maxLen := by
  rcases h.2 with ⟨rfl, rfl⟩ | ⟨g, cap, cur, rfl, _, _, hc, hm, _⟩
  · exact ⟨none, 0, rfl, Nat.le_refl _, fun _ => ⟨rfl, rfl⟩, by unfold maxLen; omega⟩
  · exact ⟨_, cap, rfl, hc, fun h => by simp at h, hm⟩
theorem ownMore {w : World} {base base' e size n : Nat} {v : Value} {xs : List Value} (h : w.ownsRow base e size v n xs) (hb : base' ≤ base) : w.ownsRow base' e size v n xs := by
  refine ⟨h.1, ?_⟩
  rcases h.2 with h2 | ⟨g, cap, cur, hv, hg, r⟩
  · exact .inl h2
  · exact .inr ⟨g, cap, cur, hv, by omega, r⟩

theorem belowDrewN {B : Nat} {a w : World} (h : Below B a w) (n : Nat) : Below B a (w.drewN n) := ⟨h.os, h.tape, h.output, h.size, h.block⟩

/-! ### append of one cell: the new cell lies in a block of its own -/
theorem oneAt (w : World) (v : Value) (e : TypeId) : ∀ j u, ([v] : List Value)[j]? = some u → (w.alloc (.cells #[v] e)).cell? ((⟨w.heap.size, 0, none⟩ : Addr).add j) = some u := by
  intro j u hj
  match j, hj with
  | 0, hj =>
    simp at hj; subst hj
    simp [Addr.add]

/-! ### arguments as they come in -/
open Go.ChangeShapes Go.WideShapes Go.ChangeAt
/-- a value that came in as an argument of type t -/
structure Arg (W : World) (t : TypeId) (v : Value) : Prop where
  ok : ∃ base, Value.okWide Tryd.prog W .any base t v
  rd : ∃ (H : Type) (enc : TypeId × Value → H) (d : DataW H) (ps : List MemPlace), DataW.Trod enc Tryd.prog W 0 (fun _ => true) true t v d ps

section
variable {W : World} {t : TypeId} {v : Value}
theorem Arg.int {k : IntKind} (h : Arg W t v) (ht : Tryd.prog.underlying t = some (.int k)) : ∃ a, v = .int k a ∧ (Lit.int k a).wf = true := by
  obtain ⟨⟨base, h1⟩, H, enc, d, ps, h2⟩ := h
  obtain ⟨a, rfl, _, _, w⟩ := Go.ChangeShapes.open_int ht h1 h2
  exact ⟨a, rfl, w⟩
theorem Arg.u64 (h : Arg W t v) (ht : Tryd.prog.underlying t = some (.int .u64)) : ∃ a : Nat, v = .int .u64 a ∧ a < 18446744073709551616 := by
  obtain ⟨a, rfl, w⟩ := h.int ht
  have := bounds_u64 w
  exact ⟨a.toNat, by rw [Int.toNat_of_nonneg this.1], by omega⟩
theorem Arg.u32 (h : Arg W t v) (ht : Tryd.prog.underlying t = some (.int .u32)) : ∃ a : Nat, v = .int .u32 a ∧ a < 4294967296 := by
  obtain ⟨a, rfl, w⟩ := h.int ht
  have := bounds_u32 w
  exact ⟨a.toNat, by rw [Int.toNat_of_nonneg this.1], by omega⟩
theorem Arg.u8 (h : Arg W t v) (ht : Tryd.prog.underlying t = some (.int .u8)) : ∃ a : Nat, v = .int .u8 a ∧ a < 256 := by
  obtain ⟨a, rfl, w⟩ := h.int ht
  have := bounds_u8 w
  exact ⟨a.toNat, by rw [Int.toNat_of_nonneg this.1], by omega⟩
theorem Arg.i64 (h : Arg W t v) (ht : Tryd.prog.underlying t = some (.int .i64)) : ∃ a : Int, v = .int .i64 a ∧ -9223372036854775808 ≤ a ∧ a ≤ 9223372036854775807 := by
  obtain ⟨a, rfl, w⟩ := h.int ht
  have := bounds_i64 w
  exact ⟨a, rfl, by omega, by omega⟩
theorem Arg.bool (h : Arg W t v) (ht : Tryd.prog.underlying t = some .bool) : ∃ a, v = .bool a := by
  obtain ⟨⟨base, h1⟩, _⟩ := h
  exact Go.WideShapes.okWide_bool ht h1
theorem Arg.string (h : Arg W t v) (ht : Tryd.prog.underlying t = some .string) : ∃ s : ByteArray, v = .string s ∧ s.size ≤ maxLen := by
  obtain ⟨⟨base, h1⟩, H, enc, d, ps, h2⟩ := h
  obtain ⟨s, rfl, _, _, w⟩ := Go.ChangeMaps.open_string ht h1 h2
  exact ⟨s, rfl, w⟩
/-- a slice of integers: its numbers; it lies below the heap's end -/
theorem Arg.ints {e : TypeId} {k : IntKind} (h : Arg W t v) (ht : Tryd.prog.underlying t = some (.slice e)) (he : Tryd.prog.underlying e = some (.int k)) (hc : Tryd.prog.cellsOf e = 1) :
    ∃ (A : Option Addr) (n c : Nat) (zs : List Int), v = .slice A n c ∧ n ≤ c ∧ c ≤ maxLen ∧ (A = none → n = 0 ∧ c = 0) ∧ zs.length = n ∧ Rd W W.heap.size A (zs.map (Value.int k)) ∧ ∀ z ∈ zs, (Lit.int k z).wf = true := by
  obtain ⟨⟨base, h1⟩, H, enc, d, ps, h2⟩ := h
  obtain ⟨A, n, c, rfl⟩ := Go.WideShapes.okWide_slice ht h1
  obtain ⟨fuel, hf⟩ := h2
  rcases open_ints ht he hc hf with ⟨hcs, _⟩ | ⟨x, l, cap, zs, hcs, _, hl, hm, hz, _, hcell, hwz⟩
  · simp [Value.cells] at hcs
    obtain ⟨rfl, rfl, rfl⟩ := hcs
    exact ⟨none, 0, 0, [], rfl, by omega, by simp [maxLen], fun _ => ⟨rfl, rfl⟩, rfl, Rd.nil, by simp⟩
  · simp [Value.cells] at hcs
    obtain ⟨rfl, rfl, rfl⟩ := hcs
    have hz' : zs.length = c := by simpa using hz
    refine ⟨_, n, c, zs.take n, rfl, hl, hm, by simp, by simp; omega, ?_, fun z hz => hwz z (List.mem_of_mem_take hz)⟩
    intro j u hu
    have hj : j < n := by have := (List.getElem?_eq_some_iff.1 hu).1; simp at this; omega
    have h0 := hcell 0 (by omega)
    obtain ⟨b, off, rfl⟩ := spotNone h0
    have hj' := hcell j (by omega)
    rw [Addr.add_lit] at hj'
    refine ⟨b, off, rfl, World.block_lt_of_cell? W _ hj', ?_⟩
    rw [hj']
    rw [List.getElem?_map, List.getElem?_take, if_pos hj] at hu
    have : zs[j]? = some (zs.getD j 0) := by
      rw [List.getD_eq_getElem?_getD, List.getElem?_eq_getElem (show j < zs.length by omega)]; rfl
    rw [this] at hu
    simpa using hu
end
theorem cellB {W W' : World} {p : Addr} {v : Value} (hb : Below W.heap.size W W') (h : W.cell? p = some v) : W'.cell? p = some v := (hb.cell (World.block_lt_of_cell? W _ h)).trans h
theorem cellA {W : World} {p : Addr} {v : Value} (o : Obj) (h : W.cell? p = some v) : (W.alloc o).cell? p = some v := (World.cell?_alloc_lt W o p (World.block_lt_of_cell? W _ h)).trans h
theorem own_ne {w : World} {B e s n B' e' s' n' : Nat} {u v : Value} {xs ys : List Value} (hu : w.ownsRow B e s u n xs) (hv : w.ownsRow B' e' s' v n' ys) (hne : e' ≠ e) : v.ownBlock = none ∨ v.ownBlock ≠ u.ownBlock := by
  cases hb : v.ownBlock with
  | none => exact Or.inl rfl
  | some g =>
    refine Or.inr fun h => ?_
    obtain ⟨c1, f1, h1⟩ := Lib.ownsRow_kind hv g hb
    obtain ⟨c2, f2, h2⟩ := Lib.ownsRow_kind hu g (h ▸ rfl)
    rw [h1] at h2
    injection h2 with h2
    injection h2 with _ h3
    exact hne h3
end Go.Proofs.YtjofjpmhokjhnaaDoor
