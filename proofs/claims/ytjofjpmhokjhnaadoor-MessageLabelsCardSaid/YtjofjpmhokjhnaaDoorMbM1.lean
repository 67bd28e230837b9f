/- Laws of whole rows: structs that lie in cells, as lists that nobody opens. No condition. (Printed by gen_accm.py.) -/
import Derived.Test.YtjofjpmhokjhnaaDoorRows
import Derived.WalkKit
import Derived.WalkSpells
import Derived.WalkLawsBesides
import Derived.Lib.Hide
import Derived.Deep.DeepCutAuto
import Derived.Deep.DeepFit
import Derived.Deep.QuietTactic
import Derived.BigQuiet
import Derived.Deep.RegionHeld3
import Derived.Deep.AppendLies
import Derived.Deep.Draws
import Derived.Maps.AppendAt
import Derived.StillTailTactics
import Derived.Deep.DeepMust
import Derived.Deep.CutBlock
import Derived.IntWalk
import Derived.Outline
import Derived.ProofKit
import Derived.SliceStrings
import Derived.Deep.Slices
import Derived.Deep.Fields
import Derived.OpenShut
import Derived.Lib.SmallJoins
import Derived.Lib.OwnKind
import Derived.Deep.MidRow
import Derived.Deep.RegionHeld
namespace Go.Proofs.YtjofjpmhokjhnaaDoor
set_option maxRecDepth 20000
open Go.RowKit

theorem ret_int {k : IntKind} {a b : Int} (h : a = b) : Ending.returned (.int k a) = .returned (.int k b) := by rw [h]
theorem ret_bool {a b : Bool} (h : a = b) : Ending.returned (.bool a) = .returned (.bool b) := by rw [h]
theorem spotNone {w : World} {a : Addr} {v : Value} (h : w.cell? (a.add 0) = some v) : ∃ b off, a = ⟨b, off, none⟩ := by
  obtain ⟨b, off, s⟩ := a
  have h1 := World.cell?_spot h
  have h2 : s = none := h1
  exact ⟨b, off, by rw [h2]⟩

/-- the slice whose address is A reads, cell by cell, as xs; it lies below block B -/
def Rd (w : World) (B : Nat) (A : Option Addr) (xs : List Value) : Prop :=
  ∀ j u, xs[j]? = some u → ∃ b off, A = some ⟨b, off, none⟩ ∧ b < B ∧ w.cell? ⟨b, off + j, none⟩ = some u

section
variable {w w' : World} {B B' : Nat} {A : Option Addr} {xs : List Value}
theorem Rd.nil : Rd w B A [] := fun j u h => by simp at h
theorem Rd.at_ (h : Rd w B A xs) {k : Nat} (hk : k < xs.length) : ∃ b off, A = some ⟨b, off, none⟩ ∧ b < B ∧ w.cell? ⟨b, off + k, none⟩ = some xs[k] :=
  h k _ (List.getElem?_eq_getElem hk)
theorem Rd.keep (h : Rd w B A xs) (hk : ∀ p : Addr, p.block < B → w'.cell? p = w.cell? p) : Rd w' B A xs := fun j u hu => by
  obtain ⟨b, off, hA, hb, hc⟩ := h j u hu
  exact ⟨b, off, hA, hb, (hk _ hb).trans hc⟩
theorem Rd.more (h : Rd w B A xs) (hB : B ≤ B') : Rd w B' A xs := fun j u hu => by
  obtain ⟨b, off, hA, hb, hc⟩ := h j u hu
  exact ⟨b, off, hA, by omega, hc⟩
theorem Rd.below (h : Rd w B A xs) (hb : Below B w w') : Rd w' B A xs := h.keep fun _ hp => hb.cell hp
theorem Rd.belowM (h : Rd w B A xs) (hb : Below B' w w') (hB : B ≤ B') : Rd w' B A xs := h.keep fun _ hp => (hb.mono hB).cell hp
theorem Rd.drewN (h : Rd w B A xs) (k : Nat) : Rd (w.drewN k) B A xs := h
theorem Rd.drew (h : Rd w B A xs) : Rd w.drew B A xs := h
theorem Rd.alloc (h : Rd w B A xs) (hB : B ≤ w.heap.size) (o : Obj) : Rd (w.alloc o) B A xs := h.keep fun p hp => World.cell?_alloc_lt w o p (by omega)
theorem Rd.setCell (h : Rd w B A xs) {p : Addr} (hB : B ≤ p.block) (u : Value) : Rd (w.setCell p u) B A xs :=
  h.keep fun q hq => World.cell?_setCell_other w p q u (fun e => by subst e; omega)
theorem Rd.grown {row : Option Nat} (h : Rd w B A xs) (hg : w.grownBy w' row) (hB : B ≤ w.heap.size) (hr : ∀ g, row = some g → B ≤ g) : Rd w' B A xs :=
  h.keep fun p hp => World.cell?_of_block (hg.block p.block (by omega) (fun e => by have := hr _ e.symm; omega))
theorem Rd.cut (h : Rd w B A xs) {k cap : Nat} (hc : xs.length ≤ cap) : Rd w B (if cap = k then A else A.map (·.add k)) (xs.drop k) := fun j u hu => by
  rw [List.getElem?_drop] at hu
  obtain ⟨b, off, rfl, hb, hcell⟩ := h _ u hu
  have hl : k + j < xs.length := (List.getElem?_eq_some_iff.1 hu).1
  rw [if_neg (by omega)]
  refine ⟨b, off + k, ?_, hb, by rw [Nat.add_assoc]; exact hcell⟩
  show some ((⟨b, off, none⟩ : Addr).add k) = _
  rw [Addr.add_lit]
theorem Rd.take (h : Rd w B A xs) (k : Nat) : Rd w B A (xs.take k) := fun j u hu => by
  rw [List.getElem?_take] at hu
  split at hu
  · exact h j u hu
  · cases hu
theorem Rd.ofOwn {base e n c : Nat} (h : w.ownsRow base e 1 (.slice A n c) n xs) : Rd w w.heap.size A xs := fun j u hu => by
  have hj : j < n := by have := (List.getElem?_eq_some_iff.1 hu).1; have := h.1; omega
  rcases h.2 with ⟨_, rfl⟩ | ⟨g, cap, cur, hv, _, hg, _⟩
  · omega
  · have hA : A = some ⟨g, 0, none⟩ := by injection hv
    subst hA
    have := h.cells (g := g) rfl j u hu
    rw [Addr.add_lit] at this
    exact ⟨g, 0, rfl, (Array.getElem?_eq_some_iff.1 hg).1, by simpa using this⟩
end
/-- the shape of a slice value that is owned -/
theorem ownShape {w : World} {base e size n : Nat} {v : Value} {xs : List Value} (h : w.ownsRow base e size v n xs) : ∃ A c, v = .slice A n c ∧ n ≤ c ∧ (A = none → n = 0 ∧ c = 0) ∧ c ≤ maxLen := by
  rcases h.2 with ⟨rfl, rfl⟩ | ⟨g, cap, cur, rfl, _, _, hc, hm, _⟩
  · exact ⟨none, 0, rfl, Nat.le_refl _, fun _ => ⟨rfl, rfl⟩, by unfold maxLen; omega⟩
  · exact ⟨_, cap, rfl, hc, fun h => by simp at h, hm⟩
theorem ownMore {w : World} {base base' e size n : Nat} {v : Value} {xs : List Value} (h : w.ownsRow base e size v n xs) (hb : base' ≤ base) : w.ownsRow base' e size v n xs := by
  refine ⟨h.1, ?_⟩
  rcases h.2 with h2 | ⟨g, cap, cur, hv, hg, r⟩
  · exact .inl h2
  · exact .inr ⟨g, cap, cur, hv, by omega, r⟩

theorem belowDrewN {B : Nat} {a w : World} (h : Below B a w) (n : Nat) : Below B a (w.drewN n) := ⟨h.os, h.tape, h.output, h.size, h.block⟩

/-! ### append of one cell: the new cell lies in a block of its own -/
theorem oneAt (w : World) (v : Value) (e : TypeId) : ∀ j u, ([v] : List Value)[j]? = some u → (w.alloc (.cells #[v] e)).cell? ((⟨w.heap.size, 0, none⟩ : Addr).add j) = some u := by
  intro j u hj
  match j, hj with
  | 0, hj =>
    simp at hj; subst hj
    simp [Addr.add]

/-! ### arguments as they come in -/
open Go.ChangeShapes Go.WideShapes Go.ChangeAt
/-- a value that came in as an argument of type t -/
structure Arg (W : World) (t : TypeId) (v : Value) : Prop where
  ok : ∃ base, Value.okWide Tryd.prog W .any base t v
  rd : ∃ (H : Type) (enc : TypeId × Value → H) (d : DataW H) (ps : List MemPlace), DataW.Trod enc Tryd.prog W 0 (fun _ => true) true t v d ps

section
variable {W : World} {t : TypeId} {v : Value}
theorem Arg.int {k : IntKind} (h : Arg W t v) (ht : Tryd.prog.underlying t = some (.int k)) : ∃ a, v = .int k a ∧ (Lit.int k a).wf = true := by
  obtain ⟨⟨base, h1⟩, H, enc, d, ps, h2⟩ := h
  obtain ⟨a, rfl, _, _, w⟩ := Go.ChangeShapes.open_int ht h1 h2
  exact ⟨a, rfl, w⟩
theorem Arg.u64 (h : Arg W t v) (ht : Tryd.prog.underlying t = some (.int .u64)) : ∃ a : Nat, v = .int .u64 a ∧ a < 18446744073709551616 := by
  obtain ⟨a, rfl, w⟩ := h.int ht
  have := bounds_u64 w
  exact ⟨a.toNat, by rw [Int.toNat_of_nonneg this.1], by omega⟩
theorem Arg.u32 (h : Arg W t v) (ht : Tryd.prog.underlying t = some (.int .u32)) : ∃ a : Nat, v = .int .u32 a ∧ a < 4294967296 := by
  obtain ⟨a, rfl, w⟩ := h.int ht
  have := bounds_u32 w
  exact ⟨a.toNat, by rw [Int.toNat_of_nonneg this.1], by omega⟩
theorem Arg.u8 (h : Arg W t v) (ht : Tryd.prog.underlying t = some (.int .u8)) : ∃ a : Nat, v = .int .u8 a ∧ a < 256 := by
  obtain ⟨a, rfl, w⟩ := h.int ht
  have := bounds_u8 w
  exact ⟨a.toNat, by rw [Int.toNat_of_nonneg this.1], by omega⟩
theorem Arg.i64 (h : Arg W t v) (ht : Tryd.prog.underlying t = some (.int .i64)) : ∃ a : Int, v = .int .i64 a ∧ -9223372036854775808 ≤ a ∧ a ≤ 9223372036854775807 := by
  obtain ⟨a, rfl, w⟩ := h.int ht
  have := bounds_i64 w
  exact ⟨a, rfl, by omega, by omega⟩
theorem Arg.bool (h : Arg W t v) (ht : Tryd.prog.underlying t = some .bool) : ∃ a, v = .bool a := by
  obtain ⟨⟨base, h1⟩, _⟩ := h
  exact Go.WideShapes.okWide_bool ht h1
theorem Arg.string (h : Arg W t v) (ht : Tryd.prog.underlying t = some .string) : ∃ s : ByteArray, v = .string s ∧ s.size ≤ maxLen := by
  obtain ⟨⟨base, h1⟩, H, enc, d, ps, h2⟩ := h
  obtain ⟨s, rfl, _, _, w⟩ := Go.ChangeMaps.open_string ht h1 h2
  exact ⟨s, rfl, w⟩
/-- a slice of integers: its numbers; it lies below the heap's end -/
theorem Arg.ints {e : TypeId} {k : IntKind} (h : Arg W t v) (ht : Tryd.prog.underlying t = some (.slice e)) (he : Tryd.prog.underlying e = some (.int k)) (hc : Tryd.prog.cellsOf e = 1) :
    ∃ (A : Option Addr) (n c : Nat) (zs : List Int), v = .slice A n c ∧ n ≤ c ∧ c ≤ maxLen ∧ (A = none → n = 0 ∧ c = 0) ∧ zs.length = n ∧ Rd W W.heap.size A (zs.map (Value.int k)) ∧ ∀ z ∈ zs, (Lit.int k z).wf = true := by
  obtain ⟨⟨base, h1⟩, H, enc, d, ps, h2⟩ := h
  obtain ⟨A, n, c, rfl⟩ := Go.WideShapes.okWide_slice ht h1
  obtain ⟨fuel, hf⟩ := h2
  rcases open_ints ht he hc hf with ⟨hcs, _⟩ | ⟨x, l, cap, zs, hcs, _, hl, hm, hz, _, hcell, hwz⟩
  · simp [Value.cells] at hcs
    obtain ⟨rfl, rfl, rfl⟩ := hcs
    exact ⟨none, 0, 0, [], rfl, by omega, by simp [maxLen], fun _ => ⟨rfl, rfl⟩, rfl, Rd.nil, by simp⟩
  · simp [Value.cells] at hcs
    obtain ⟨rfl, rfl, rfl⟩ := hcs
    have hz' : zs.length = c := by simpa using hz
    refine ⟨_, n, c, zs.take n, rfl, hl, hm, by simp, by simp; omega, ?_, fun z hz => hwz z (List.mem_of_mem_take hz)⟩
    intro j u hu
    have hj : j < n := by have := (List.getElem?_eq_some_iff.1 hu).1; simp at this; omega
    have h0 := hcell 0 (by omega)
    obtain ⟨b, off, rfl⟩ := spotNone h0
    have hj' := hcell j (by omega)
    rw [Addr.add_lit] at hj'
    refine ⟨b, off, rfl, World.block_lt_of_cell? W _ hj', ?_⟩
    rw [hj']
    rw [List.getElem?_map, List.getElem?_take, if_pos hj] at hu
    have : zs[j]? = some (zs.getD j 0) := by
      rw [List.getD_eq_getElem?_getD, List.getElem?_eq_getElem (show j < zs.length by omega)]; rfl
    rw [this] at hu
    simpa using hu
end
theorem cellB {W W' : World} {p : Addr} {v : Value} (hb : Below W.heap.size W W') (h : W.cell? p = some v) : W'.cell? p = some v := (hb.cell (World.block_lt_of_cell? W _ h)).trans h
theorem cellA {W : World} {p : Addr} {v : Value} (o : Obj) (h : W.cell? p = some v) : (W.alloc o).cell? p = some v := (World.cell?_alloc_lt W o p (World.block_lt_of_cell? W _ h)).trans h
theorem own_ne {w : World} {B e s n B' e' s' n' : Nat} {u v : Value} {xs ys : List Value} (hu : w.ownsRow B e s u n xs) (hv : w.ownsRow B' e' s' v n' ys) (hne : e' ≠ e) : v.ownBlock = none ∨ v.ownBlock ≠ u.ownBlock := by
  cases hb : v.ownBlock with
  | none => exact Or.inl rfl
  | some g =>
    refine Or.inr fun h => ?_
    obtain ⟨c1, f1, h1⟩ := Lib.ownsRow_kind hv g hb
    obtain ⟨c2, f2, h2⟩ := Lib.ownsRow_kind hu g (h ▸ rfl)
    rw [h1] at h2
    injection h2 with h2
    injection h2 with _ h3
    exact hne h3
end Go.Proofs.YtjofjpmhokjhnaaDoor

namespace Go.Proofs.YtjofjpmhokjhnaaDoor
set_option maxRecDepth 20001
set_option linter.unusedSimpArgs false
set_option linter.unusedVariables false
def nthL {α : Type} : List α → Nat → Option α
  | [], _ => none
  | x :: _, 0 => some x
  | _ :: r, n + 1 => nthL r n
theorem nthL_eq {α : Type} (l : List α) (n : Nat) : nthL l n = l[n]? := by
  induction l generalizing n with
  | nil => simp [nthL]
  | cons x r ih => cases n with
    | zero => simp [nthL]
    | succ n => simp [nthL, ih]
/-- slots that were written, over those that stood there -/
def lookS (base : List Value) : List (Nat × Value) → Nat → Option Value
  | [], j => nthL base j
  | (d, v) :: r, j => bif Nat.beq d j then some v else lookS base r j
def actS (a : Act) (acc : List (Nat × Value)) : Act := acc.foldr (fun p b => b.put (some p.1) p.2) a
theorem actS_size (a : Act) (acc : List (Nat × Value)) : (actS a acc).tmps.size = a.tmps.size := by
  induction acc with
  | nil => rfl
  | cons p r ih => simpa [actS, Act.put] using ih
theorem actS_look (a : Act) (acc : List (Nat × Value)) (hn : ∀ p ∈ acc, p.1 < a.tmps.size) (j : Nat) : (actS a acc).tmps[j]? = lookS a.tmps.toList acc j := by
  induction acc with
  | nil => simp [actS, lookS, nthL_eq]
  | cons p r ih =>
    obtain ⟨d, v⟩ := p
    have ih := ih (fun q hq => hn q (by simp [hq]))
    have hs := actS_size a r
    have hd := hn (d, v) (by simp)
    unfold lookS
    show ((actS a r).put (some d) v).tmps[j]? = _
    unfold Act.put
    simp only [Array.getElem?_setIfInBounds, hs]
    by_cases e : d = j
    · subst e
      have : Nat.beq d d = true := Nat.beq_refl d
      simp [hd]
    · have : Nat.beq d j = false := by
        cases h : Nat.beq d j with
        | false => rfl
        | true => exact absurd (Nat.eq_of_beq_eq_true h) e
      simp [this, e, ih]
def evalS (look : Nat → Option Value) (globals : Operand → Value) : Operand → Value
  | .tmp t => match look t with
    | some v => v
    | none => undef
  | x => globals x
def yieldS (opsL : List Oper) (look : Nat → Option Value) (j : Nat) : Option Bool :=
  match nthL opsL j with
  | some o => match o.dst with
    | some d => match look d with
      | some (.bool b) => some b
      | _ => none
    | none => none
  | none => none
def boolEq : Bool → Bool → Bool
  | true, b => b
  | false, b => !b
def wantS (opsL : List Oper) (look : Nat → Option Value) (o : Oper) : Bool :=
  match o.guard with
  | none => true
  | some (j, want) => match yieldS opsL look j with
    | some b => boolEq b want
    | none => false
def constS : Operand → Value
  | .tmp _ => undef
  | .const v => v
  | .global g => .pointer (some ⟨g, 0, none⟩)
  | .func f => .func (.func f) #[] #[]
def moveS (look : Nat → Option Value) : Op → Option Value
  | .move x => some (evalS look constS x)
  | .assign x => some (evalS look constS x)
  | .pick c x y => match evalS look constS c with
    | .bool b => some (bif b then evalS look constS x else evalS look constS y)
    | _ => none
  | _ => none
def tailS (n : Nat) (base : List Value) (opsL : List Oper) : List Oper → List (Nat × Value) → Option (List (Nat × Value))
  | [], acc => some acc
  | o :: rest, acc =>
    match o.dst with
    | none => none
    | some d => bif Nat.blt d n then
        match wantS opsL (lookS base acc) o with
        | true => match moveS (lookS base acc) o.op with
          | some v => tailS n base opsL rest ((d, v) :: acc)
          | none => none
        | false => tailS n base opsL rest ((d, undef) :: acc)
      else none
theorem evalS_eq (a : Act) (look : Nat → Option Value) (h : ∀ j, a.tmps[j]? = look j) (x : Operand) : a.eval x = evalS look constS x := by
  cases x with
  | tmp t =>
    unfold Act.eval evalS
    simp only [Array.getD_eq_getD_getElem?, h]
    cases look t <;> rfl
  | _ => rfl
theorem yieldS_eq (opsL : List Oper) (tmps : Array Value) (look : Nat → Option Value) (h : ∀ j, tmps[j]? = look j) (j : Nat) : yielded opsL.toArray tmps j = yieldS opsL look j := by
  unfold yielded yieldS
  rw [List.getElem?_toArray, nthL_eq]
  cases opsL[j]? with
  | none => rfl
  | some o =>
    simp only [Option.bind_some]
    cases o.dst with
    | none => rfl
    | some d =>
      simp only [Option.bind_some, h]
      cases look d with
      | none => rfl
      | some v => cases v <;> rfl
theorem wantS_eq (opsL : List Oper) (tmps : Array Value) (look : Nat → Option Value) (h : ∀ j, tmps[j]? = look j) (o : Oper) : Region.wanted o (yielded opsL.toArray tmps) = wantS opsL look o := by
  unfold Region.wanted wantS
  cases o.guard with
  | none => rfl
  | some g =>
    obtain ⟨j, want⟩ := g
    simp only [yieldS_eq opsL tmps look h]
    cases yieldS opsL look j with
    | none => rfl
    | some b => cases b <;> cases want <;> rfl
theorem run_moveS {P : Program} {a : Act} {o : Oper} {v : Value} (look : Nat → Option Value) (h : ∀ j, a.tmps[j]? = look j) (hm : moveS look o.op = some v) (w : World) : (execOp a.eval o).run P w = .ok (.value v) w := by
  unfold execOp
  cases ho : o.op with
  | move x => rw [ho] at hm; cases hm; rw [← evalS_eq a look h x]; rfl
  | assign x => rw [ho] at hm; cases hm; rw [← evalS_eq a look h x]; rfl
  | pick c x y =>
    rw [ho] at hm
    have hm : (match evalS look constS c with | .bool b => some (bif b then evalS look constS x else evalS look constS y) | _ => none) = some v := hm
    rw [← evalS_eq a look h c, ← evalS_eq a look h x, ← evalS_eq a look h y] at hm
    cases hc : a.eval c with
    | bool b => simp only [hc] at hm; cases hm; cases b <;> simp [asBool, hc] <;> rfl
    | _ => simp only [hc] at hm; cases hm
  | _ => rw [ho] at hm; cases hm
theorem wpList_tailS {P : Program} {opsL : List Oper} {Q : Exit → Act → World → Prop} {l : List Oper} {a : Act} {acc acc' : List (Nat × Value)} {w : World} (n : Nat) (hn : a.tmps.size = n)
    (hacc : ∀ p ∈ acc, p.1 < a.tmps.size) (h : tailS n a.tmps.toList opsL l acc = some acc') (hq : (∀ p ∈ acc', p.1 < a.tmps.size) → Q .normal (actS a acc') w) : wpList P opsL.toArray Q l (actS a acc) w := by
  induction l generalizing acc with
  | nil => cases h; exact hq hacc
  | cons o rest ih =>
    have hl := actS_look a acc hacc
    unfold tailS at h
    cases hd : o.dst with
    | none => simp only [hd] at h; cases h
    | some d =>
      simp only [hd] at h
      cases hb : Nat.blt d n with
      | false => simp only [hb] at h; cases h
      | true =>
        have hdn : d < a.tmps.size := by rw [hn]; exact Nat.le_of_ble_eq_true hb
        simp only [hb, cond_true] at h
        have hacc' : ∀ v, ∀ p ∈ (d, v) :: acc, p.1 < a.tmps.size := fun v p hp => by
          rcases List.mem_cons.1 hp with e | e
          · subst e; exact hdn
          · exact hacc p e
        cases hw : wantS opsL (lookS a.tmps.toList acc) o with
        | false =>
          simp only [hw] at h
          refine wpList_skip ((wantS_eq opsL _ _ hl o).trans hw) ?_
          rw [hd]
          exact ih (hacc' undef) h
        | true =>
          simp only [hw] at h
          refine wpList_step fun K hK => ?_
          rw [if_pos ((wantS_eq opsL _ _ hl o).trans hw)]
          unfold Oper.wp
          cases hm : moveS (lookS a.tmps.toList acc) o.op with
          | some v => simp only [hm] at h; rw [run_moveS _ hl hm, Oper.upon_value]; refine hK _ _ ?_; rw [hd]; exact ih (hacc' v) h
          | none => simp only [hm] at h; cases h
/-- the same, where only one slot of what comes out counts -/
theorem wpList_tail1 {P : Program} {opsL : List Oper} {Q : Exit → Act → World → Prop} {l : List Oper} {tmps : Array Value} {df : List Deferred} {w : World} (n k : Nat) (v : Value) (hn : tmps.size = n)
    (h : (match tailS n tmps.toList opsL l [] with | some acc' => lookS tmps.toList acc' k | none => none) = some v) (hq : ∀ a' : Act, a'.tmps[k]? = some v → a'.defers = df → Q .normal a' w) : wpList P opsL.toArray Q l ⟨tmps, df⟩ w := by
  cases ht : tailS n tmps.toList opsL l [] with
  | none => rw [ht] at h; cases h
  | some acc' =>
    rw [ht] at h
    refine wpList_tailS (a := ⟨tmps, df⟩) (acc := []) n hn (fun p hp => by cases hp) ht fun hacc => ?_
    refine hq _ ((actS_look _ acc' hacc k).trans h) ?_
    have : ∀ acc : List (Nat × Value), (actS ⟨tmps, df⟩ acc).defers = df := fun acc => by
      induction acc with
      | nil => rfl
      | cons p r ih => exact ih
    exact this acc'
section
variable {α : Type}
theorem nP (t : Array Value) (df : List Deferred) (d : Tmp) (v : Value) : Act.put ⟨t, df⟩ (some d) v = ⟨t.setIfInBounds d v, df⟩ := rfl
theorem nN (a : Act) (v : Value) : Act.put a none v = a := rfl
theorem nA (l : List α) (i : Nat) (x : α) : l.toArray.setIfInBounds i x = (l.set i x).toArray := List.setIfInBounds_toArray ..
theorem n0 (x y : α) (l : List α) : (x :: l).set 0 y = y :: l := rfl
theorem nS (x y : α) (l : List α) (n : Nat) : (x :: l).set (n + 1) y = x :: l.set n y := rfl
theorem nG (l : List α) (i : Nat) (h : i < l.toArray.size) : l.toArray[i] = l[i]'(by simpa using h) := List.getElem_toArray ..
end
end Go.Proofs.YtjofjpmhokjhnaaDoor

namespace Go.Proofs.YtjofjpmhokjhnaaDoor
set_option maxRecDepth 20001
open Go.RowKit Go.ChangeShapes Go.WideShapes Go.ChangeAt Go.Deep
set_option linter.unusedSimpArgs false
set_option linter.unusedVariables false

/-- cells that read as a value of type t -/
def Cel (W : World) (t : TypeId) (cs : List Value) : Prop :=
  ∃ (H : Type) (enc : TypeId × Value → H) (fuel : Nat) (x : DataW H × List MemPlace), DataW.trod enc Tryd.prog W 0 (fun _ => true) true fuel t cs = some x

section
variable {W : World} {t : TypeId} {v : Value} {cs : List Value}
theorem Arg.struct {fs : Array Field} (h : Arg W t v) (ht : Tryd.prog.underlying t = some (.struct fs)) : ∃ cs : Array Value, v = .agg cs ∧ Cel W t cs.toList := by
  obtain ⟨⟨base, h1⟩, H, enc, d, ps, fuel, h2⟩ := h
  obtain ⟨cs, rfl, _⟩ := okWide_struct ht h1
  exact ⟨cs, rfl, H, enc, fuel, _, h2⟩
theorem Arg.array {n : Nat} {e : TypeId} (h : Arg W t v) (ht : Tryd.prog.underlying t = some (.array n e)) : ∃ cs : Array Value, v = .agg cs ∧ Cel W t cs.toList := by
  obtain ⟨⟨base, h1⟩, H, enc, d, ps, fuel, h2⟩ := h
  simp only [Value.okWide, ht] at h1
  obtain ⟨cs, rfl, _⟩ := h1
  exact ⟨cs, rfl, H, enc, fuel, _, h2⟩
theorem Arg.slice {e : TypeId} (h : Arg W t v) (ht : Tryd.prog.underlying t = some (.slice e)) : ∃ (A : Option Addr) (n c : Nat), v = .slice A n c ∧ Cel W t [.slice A n c] := by
  obtain ⟨⟨base, h1⟩, H, enc, d, ps, fuel, h2⟩ := h
  obtain ⟨A, n, c, rfl⟩ := okWide_slice ht h1
  exact ⟨A, n, c, rfl, H, enc, fuel, _, h2⟩

theorem Cel.int {k : IntKind} (h : Cel W t cs) (ht : Tryd.prog.underlying t = some (.int k)) : ∃ a, cs = [.int k a] ∧ (Lit.int k a).wf = true := by
  obtain ⟨H, enc, fuel, x, h⟩ := h
  obtain ⟨a, h1, _, h2⟩ := DataW.trod_int ht h
  exact ⟨a, h1, h2⟩
theorem Cel.u64 (h : Cel W t cs) (ht : Tryd.prog.underlying t = some (.int .u64)) : ∃ a : Nat, cs = [.int .u64 (a : Int)] ∧ a < 18446744073709551616 := by
  obtain ⟨a, rfl, w⟩ := h.int ht
  have := bounds_u64 w
  exact ⟨a.toNat, by rw [Int.toNat_of_nonneg this.1], by omega⟩
theorem Cel.u32 (h : Cel W t cs) (ht : Tryd.prog.underlying t = some (.int .u32)) : ∃ a : Nat, cs = [.int .u32 (a : Int)] ∧ a < 4294967296 := by
  obtain ⟨a, rfl, w⟩ := h.int ht
  have := bounds_u32 w
  exact ⟨a.toNat, by rw [Int.toNat_of_nonneg this.1], by omega⟩
theorem Cel.u8 (h : Cel W t cs) (ht : Tryd.prog.underlying t = some (.int .u8)) : ∃ a : Nat, cs = [.int .u8 (a : Int)] ∧ a < 256 := by
  obtain ⟨a, rfl, w⟩ := h.int ht
  have := bounds_u8 w
  exact ⟨a.toNat, by rw [Int.toNat_of_nonneg this.1], by omega⟩
theorem Cel.i64 (h : Cel W t cs) (ht : Tryd.prog.underlying t = some (.int .i64)) : ∃ a : Int, cs = [.int .i64 a] ∧ -9223372036854775808 ≤ a ∧ a ≤ 9223372036854775807 := by
  obtain ⟨a, rfl, w⟩ := h.int ht
  have := bounds_i64 w
  exact ⟨a, rfl, by omega, by omega⟩
theorem Cel.bool (h : Cel W t cs) (ht : Tryd.prog.underlying t = some .bool) : ∃ b, cs = [.bool b] := by
  obtain ⟨H, enc, fuel, x, h⟩ := h
  obtain ⟨a, h1, _⟩ := DataW.trod_bool ht h
  exact ⟨a, h1⟩
theorem Cel.string (h : Cel W t cs) (ht : Tryd.prog.underlying t = some .string) : ∃ s : ByteArray, cs = [.string s] ∧ s.size ≤ 9223372036854775807 := by
  obtain ⟨H, enc, fuel, x, h⟩ := h
  obtain ⟨a, h1, _, h2⟩ := DataW.trod_string ht h
  exact ⟨a, h1, by unfold maxLen at h2; omega⟩
theorem Cel.len {fs : Array Field} (h : Cel W t cs) (ht : Tryd.prog.underlying t = some (.struct fs)) : cs.length = Tryd.prog.cellsOf t := by
  obtain ⟨H, enc, fuel, x, h⟩ := h
  obtain ⟨_, _, _, _, h1, _⟩ := DataW.trod_struct ht h
  exact h1
theorem Cel.field {fs : Array Field} (h : Cel W t cs) (ht : Tryd.prog.underlying t = some (.struct fs)) (j : Nat) (f : Field) (hj : fs[j]? = some f) : Cel W f.type ((cs.drop f.offset).take (Tryd.prog.cellsOf f.type)) := by
  obtain ⟨H, enc, fuel, x, h⟩ := h
  obtain ⟨xs, n, _, _, _, hl, hf⟩ := DataW.trod_struct ht h
  have hjl : j < xs.length := by rw [hl]; exact (Array.getElem?_eq_some_iff.1 hj).1
  have h1 := hf j f hj
  rw [List.getElem?_eq_getElem hjl] at h1
  exact ⟨H, enc, n, _, h1⟩
/-- a field of one cell -/
theorem Cel.field1 {fs : Array Field} (h : Cel W t cs) (ht : Tryd.prog.underlying t = some (.struct fs)) (j o : Nat) (ft : TypeId) (f : Field) (hj : fs[j]? = some f) (ho : f.offset = o) (hty : f.type = ft) (hk : Tryd.prog.cellsOf ft = 1) (v : Value) (hv : cs[o]? = some v) : Cel W ft [v] := by
  subst ho; subst hty
  have h1 := h.field ht j f hj
  rw [hk] at h1
  have hl := (List.getElem?_eq_some_iff.1 hv).1
  rw [List.drop_eq_getElem_cons hl] at h1
  have e : cs[f.offset] = v := (List.getElem?_eq_some_iff.1 hv).2
  rw [e] at h1
  exact h1
theorem Cel.elem {n : Nat} {e : TypeId} (h : Cel W t cs) (ht : Tryd.prog.underlying t = some (.array n e)) (i : Nat) (hi : i < n) : Cel W e ((cs.drop (i * Tryd.prog.cellsOf e)).take (Tryd.prog.cellsOf e)) := by
  obtain ⟨H, enc, fuel, x, h⟩ := h
  obtain ⟨xs, m, _, _, _, hl, hf⟩ := DataW.trod_array ht h
  have h1 := hf i hi
  rw [List.getElem?_eq_getElem (show i < xs.length by omega)] at h1
  exact ⟨H, enc, m, _, h1⟩
/-- the cells of a slice that came in: element i, cell by cell -/
theorem Cel.slice {e : TypeId} {A : Option Addr} {n c : Nat} (h : Cel W t [.slice A n c]) (ht : Tryd.prog.underlying t = some (.slice e)) :
    (A = none ∧ n = 0 ∧ c = 0) ∨ (n ≤ c ∧ c ≤ maxLen ∧ ∃ a, A = some a ∧ ∀ i, i < n → ∃ cs' : List Value, cs'.length = Tryd.prog.cellsOf e ∧ Cel W e cs' ∧ ∀ j, j < Tryd.prog.cellsOf e → W.cell? ((a.add (i * Tryd.prog.cellsOf e)).add j) = cs'[j]?) := by
  obtain ⟨H, enc, fuel, x, h⟩ := h
  rcases open_slice ht h with ⟨h1, _⟩ | ⟨a, len, cap, m, k, D, Pl, h1, _, hl, hm, hmm, _, hi⟩
  · simp at h1
    exact Or.inl h1
  · simp at h1
    obtain ⟨rfl, rfl, rfl⟩ := h1
    refine Or.inr ⟨hl, hm, a, rfl, fun i hi' => ?_⟩
    obtain ⟨cs', hc, ht'⟩ := hi i (by simp at hmm; omega)
    obtain ⟨_, hcl, hat⟩ := World.cells?_some hc
    exact ⟨cs', hcl, ⟨H, enc, k, _, ht'⟩, hat⟩
/-- the same, the address written out -/
theorem Cel.sliceAt {e : TypeId} {A : Option Addr} {n c : Nat} (h : Cel W t [.slice A n c]) (ht : Tryd.prog.underlying t = some (.slice e)) (sz : Nat) (hsz : Tryd.prog.cellsOf e = sz) (hpos : 0 < sz) :
    n ≤ c ∧ c ≤ maxLen ∧ (A = none → n = 0 ∧ c = 0) ∧ (0 < n → ∃ b off, A = some ⟨b, off, none⟩ ∧ b < W.heap.size ∧ ∀ i, i < n → ∃ cs' : List Value, cs'.length = sz ∧ Cel W e cs' ∧ ∀ j, j < sz → W.cell? ⟨b, off + i * sz + j, none⟩ = cs'[j]?) := by
  subst hsz
  rcases h.slice ht with ⟨rfl, rfl, rfl⟩ | ⟨hn, hc, a, rfl, hi⟩
  · exact ⟨Nat.le_refl _, by simp [maxLen], fun _ => ⟨rfl, rfl⟩, fun h => absurd h (by omega)⟩
  · refine ⟨hn, hc, fun h => by simp at h, fun h0 => ?_⟩
    obtain ⟨cs0, hl0, _, hat0⟩ := hi 0 h0
    have h00 := hat0 0 hpos
    rw [List.getElem?_eq_getElem (by omega)] at h00
    have e0 : (a.add (0 * Tryd.prog.cellsOf e)) = a := by simp [Addr.add]
    rw [e0] at h00
    obtain ⟨b, off, rfl⟩ := spotNone h00
    refine ⟨b, off, rfl, ?_, fun i hi' => ?_⟩
    · rw [Addr.add_lit] at h00
      exact World.block_lt_of_cell? W _ h00
    · obtain ⟨cs', hl, hc', hat⟩ := hi i hi'
      refine ⟨cs', hl, hc', fun j hj => ?_⟩
      have := hat j hj
      rw [Addr.add_lit, Addr.add_lit] at this
      exact this
end

end Go.Proofs.YtjofjpmhokjhnaaDoor

namespace Go.Proofs.YtjofjpmhokjhnaaDoor
set_option maxRecDepth 20001
open Go.RowKit Go.ChangeShapes Go.WideShapes Go.ChangeAt Go.Deep
set_option linter.unusedSimpArgs false
set_option linter.unusedVariables false

/-- the cells at A hold rows of k cells each, all below B -/
def RowsAt (w : World) (B : Nat) (A : Option Addr) (k : Nat) (ls : List (List Value)) : Prop :=
  ∀ i cs, ls[i]? = some cs → ∃ b off, A = some ⟨b, off, none⟩ ∧ b < B ∧ ∀ j v, cs[j]? = some v → w.cell? ⟨b, off + i * k + j, none⟩ = some v
section
variable {w w' : World} {B B' k : Nat} {A : Option Addr} {ls : List (List Value)}
theorem RowsAt.nil : RowsAt w B A k [] := fun i cs h => by simp at h
theorem RowsAt.keep (h : RowsAt w B A k ls) (hk : ∀ p : Addr, p.block < B → w'.cell? p = w.cell? p) : RowsAt w' B A k ls := fun i cs hi => by
  obtain ⟨b, off, hA, hb, hc⟩ := h i cs hi
  exact ⟨b, off, hA, hb, fun j v hj => (hk _ hb).trans (hc j v hj)⟩
theorem RowsAt.below (h : RowsAt w B A k ls) (hb : Below B' w w') (hB : B ≤ B') : RowsAt w' B A k ls := h.keep fun p hp => hb.cell (Nat.lt_of_lt_of_le hp hB)
theorem RowsAt.more (h : RowsAt w B A k ls) (hB : B ≤ B') : RowsAt w B' A k ls := fun i cs hi => by
  obtain ⟨b, off, hA, hb, hc⟩ := h i cs hi
  exact ⟨b, off, hA, by omega, hc⟩
theorem RowsAt.alloc (h : RowsAt w B A k ls) (hB : B ≤ w.heap.size) (o : Obj) : RowsAt (w.alloc o) B A k ls := h.keep fun p hp => World.cell?_alloc_lt w o p (by omega)
theorem RowsAt.drewN (h : RowsAt w B A k ls) (n : Nat) : RowsAt (w.drewN n) B A k ls := h
theorem RowsAt.grown {g : Nat} (h : RowsAt w B A k ls) (hg : w.grownBy w' (some g)) (hB : B ≤ g) (hs : B ≤ w.heap.size) : RowsAt w' B A k ls := fun i cs hi => by
  obtain ⟨b, off, hA, hb, hc⟩ := h i cs hi
  exact ⟨b, off, hA, hb, fun j v hj => hg.cell (hc j v hj) (by simp; omega)⟩
/-- element i -/
theorem RowsAt.at_ (h : RowsAt w B A k ls) {i : Nat} (hi : i < ls.length) : ∃ b off, A = some ⟨b, off, none⟩ ∧ b < B ∧ ∀ j v, ls[i][j]? = some v → w.cell? ⟨b, off + i * k + j, none⟩ = some v := h i _ (List.getElem?_eq_getElem hi)
end
/-- a cell of a slice's type is a slice -/
theorem Cel.isSlice {W : World} {t e : TypeId} {v : Value} (h : Cel W t [v]) (ht : Tryd.prog.underlying t = some (.slice e)) : ∃ (A : Option Addr) (n c : Nat), v = .slice A n c := by
  obtain ⟨H, enc, fuel, x, h⟩ := h
  rcases open_slice ht h with ⟨h1, _⟩ | ⟨a, len, cap, m, k, D, Pl, h1, _⟩
  · simp at h1; exact ⟨_, _, _, h1⟩
  · simp at h1; exact ⟨_, _, _, h1⟩
/-- a slice that came in reads as rows of cells, and each of them as what its cells read as -/
theorem Cel.rows {α : Type} [Inhabited α] {W : World} {t e : TypeId} {A : Option Addr} {n c sz : Nat} (enc : α → List Value) (P : α → Prop) (h : Cel W t [.slice A n c]) (ht : Tryd.prog.underlying t = some (.slice e))
    (hsz : Tryd.prog.cellsOf e = sz) (hpos : 0 < sz) (hdec : ∀ cs, Cel W e cs → ∃ x, cs = enc x ∧ P x) :
    ∃ ls : List α, ls.length = n ∧ n ≤ c ∧ c ≤ maxLen ∧ (A = none → n = 0 ∧ c = 0) ∧ RowsAt W W.heap.size A sz (ls.map enc) ∧ ∀ x ∈ ls, P x := by
  obtain ⟨hn, hm, hA, hat⟩ := h.sliceAt ht sz hsz hpos
  by_cases h0 : 0 < n
  · obtain ⟨b, off, rfl, hb, hi⟩ := hat h0
    have hex : ∀ i, ∃ x : α, i < n → (P x ∧ ∀ j v, (enc x)[j]? = some v → W.cell? ⟨b, off + i * sz + j, none⟩ = some v) := by
      intro i
      by_cases hlt : i < n
      · obtain ⟨cs', hl, hce, hj⟩ := hi i hlt
        obtain ⟨x, rfl, hp⟩ := hdec _ hce
        exact ⟨x, fun _ => ⟨hp, fun j v hv => (hj j (by have := (List.getElem?_eq_some_iff.1 hv).1; omega)).trans hv⟩⟩
      · exact ⟨default, fun h => absurd h hlt⟩
    refine ⟨(List.range n).map fun i => (hex i).choose, by simp, hn, hm, hA, fun i cs hc => ?_, fun x hx => ?_⟩
    · rw [List.map_map, List.getElem?_map] at hc
      obtain ⟨i', hi', rfl⟩ := Option.map_eq_some_iff.1 hc
      obtain ⟨hlt, rfl⟩ := List.getElem?_eq_some_iff.1 hi'
      simp only [List.length_range] at hlt
      simp only [List.getElem_range, Function.comp]
      exact ⟨b, off, rfl, hb, ((hex i).choose_spec hlt).2⟩
    · obtain ⟨i, hi', rfl⟩ := List.mem_map.1 hx
      exact ((hex i).choose_spec (List.mem_range.1 hi')).1
  · obtain rfl : n = 0 := by omega
    exact ⟨[], rfl, hn, hm, hA, RowsAt.nil, fun x hx => by simp at hx⟩
theorem str_eta (t : ByteArray) : (⟨t.data.toList.toArray⟩ : ByteArray) = t := by
  obtain ⟨⟨l⟩⟩ := t
  rfl
theorem str_size (t : ByteArray) : t.data.toList.length = t.size := by rw [Array.length_toList]; rfl
end Go.Proofs.YtjofjpmhokjhnaaDoor

namespace Go.Proofs.YtjofjpmhokjhnaaDoor
set_option maxRecDepth 20001
open Go.RowKit
set_option linter.unusedSimpArgs false
set_option linter.unusedVariables false

section
variable {w w' : World} {g : Nat} {cs part : List Value} {t : TypeId} {o' : Obj}
/-- what lies behind steps that go past it -/
theorem hpB (h : w.heap[g]? = some o') (hb : Below w.heap.size w w') : w'.heap[g]? = some o' := (hb.block g (Array.getElem?_eq_some_iff.1 h).1).trans h
theorem hpA (h : w.heap[g]? = some o') (o : Obj) : (w.alloc o).heap[g]? = some o' := (Below.heap_alloc w o g (Array.getElem?_eq_some_iff.1 h).1).trans h
theorem hpS (h : w.heap[g]? = some o') {p : Addr} (hp : g ≠ p.block) (u : Value) : (w.setCell p u).heap[g]? = some o' := (Below.heap_setCell w p u g hp).trans h
theorem hpR (h : w.heap[g]? = some o') {g' : Nat} (hp : g ≠ g') (vs : Array Value) : (w.setRow g' vs).heap[g]? = some o' := (setRow_other w g' g vs hp).trans h
theorem hpN (w : World) (o : Obj) {n : Nat} (hn : n = w.heap.size) : (w.alloc o).heap[n]? = some o := by subst hn; exact heap_alloc_new w o
/-- a whole row, and a part of it, as ranges -/
theorem rowAt (h : w.heap[g]? = some (.cells cs.toArray t (0, 0))) : w.rangeAt g 0 cs := fun j v hj => by
  rw [Nat.zero_add, cell_of_row w g j cs.toArray t (0, 0) h]; simpa using hj
theorem rowMid (h : w.heap[g]? = some (.cells cs.toArray t (0, 0))) (o : Nat) (hp : ∀ j v, part[j]? = some v → cs[o + j]? = some v) : w.rangeAt g o part := fun j v hj => by
  rw [cell_of_row w g (o + j) cs.toArray t (0, 0) h]; simpa using hp j v hj
theorem rowCell (h : w.heap[g]? = some (.cells cs.toArray t (0, 0))) (i : Nat) {v : Value} (hv : cs[i]? = some v) : w.cell? ⟨g, i, none⟩ = some v := by
  rw [cell_of_row w g i cs.toArray t (0, 0) h]; simpa using hv
theorem rowThere (h : w.heap[g]? = some (.cells cs.toArray t (0, 0))) {o n : Nat} (hn : o + n ≤ cs.length) : w.there g o n := fun j hj => by
  refine ⟨?_, by simp [World.frozen?, h]⟩
  rw [cell_of_row w g (o + j) cs.toArray t (0, 0) h, List.getElem?_toArray, List.getElem?_eq_getElem (by omega)]; rfl
theorem belowSet {B : Nat} {a w : World} (h : Below B a w) {g : Nat} {old cs : Array Value} {t : TypeId} (hg : w.heap[g]? = some (.cells old t (0, 0))) (hB : B ≤ g) : Below B a (w.setRow g cs) :=
  ⟨h.os, h.tape, h.output, by rw [setRow_size]; exact h.size, fun i hi => (setRow_other w g i cs (by omega)).trans (h.block i hi)⟩
end
/-- a guarded load that is carried out -/
theorem wpList_load_g {P : Program} {ops : Array Oper} {rest : List Oper} {op : Oper} {a : Act} {w : World} {Q : Exit → Act → World → Prop} (hw : Region.wanted op (yielded ops a.tmps) = true) (ty : TypeId) (x : Operand) (ho : op.op = .load ty x)
    (b o : Nat) (hx : a.eval x = .pointer (some ⟨b, o, none⟩)) (cs : List Value) (d : TypeDesc) (hc : w.rangeAt b o cs)
    (hu : P.underlying ty = some d) (hd : d.isRow = true) (hi : (P.info? ty).map (·.size) = some cs.length)
    (h : wpList P ops Q rest (a.put op.dst (.agg cs.toArray)) w) : wpList P ops Q (op :: rest) a w :=
  wpList_step fun _ hK => by rw [if_pos hw]; exact wp_load_mid ty x ho b o hx cs d hc hu hd hi (hK _ _ h)
/-- what a function returns that keeps its results in variables -/
theorem res_ct {P : Program} {fn : Func} {p u : Tmp} {ty : TypeId} (h : fn.results = #[.cell p ty, .tmp u]) {tmps : Array Value} {w : World} {g : Nat} {t : TypeId} {cs : List Value} {d : TypeDesc} {v : Value}
    (hp : tmps.getD p undef = .pointer (some ⟨g, 0, none⟩)) (hv : tmps.getD u undef = v) (hg : w.heap[g]? = some (.cells cs.toArray t (0, 0)))
    (hu : P.underlying ty = some d) (hd : d.isRow = true) (hi : (P.info? ty).map (·.size) = some cs.length) : (results fn tmps).run P w = .ok (.tuple #[.agg cs.toArray, v]) w := by
  have hp' : tmps[p]?.getD undef = .pointer (some ⟨g, 0, none⟩) := by simpa using hp
  have hv' : tmps[u]?.getD undef = v := by simpa using hv
  simp [results, h, hp', hv', asAddr, run_loadVar_mid w g 0 ty cs d (rowAt hg) hu hd hi]
/-- does a load, a store come next? -/
theorem isLoad {P : Program} {ops : Array Oper} {rest : List Oper} {op : Oper} {a : Act} {w : World} {Q : Exit → Act → World → Prop} {ty : TypeId} {x : Operand} (ho : op.op = .load ty x) (h : wpList P ops Q (op :: rest) a w) : wpList P ops Q (op :: rest) a w := h
theorem isStore {P : Program} {ops : Array Oper} {rest : List Oper} {op : Oper} {a : Act} {w : World} {Q : Exit → Act → World → Prop} {ty : TypeId} {x y : Operand} (ho : op.op = .store ty x y) (h : wpList P ops Q (op :: rest) a w) : wpList P ops Q (op :: rest) a w := h
/-- cells put into a row, from o on -/
def putAt (cs : List Value) : Nat → List Value → List Value
  | _, [] => cs
  | o, v :: r => putAt (cs.set o v) (o + 1) r
theorem hpC {g : Nat} {t : TypeId} : ∀ (vs : List Value) (o : Nat) (cs : List Value) (w : World), w.heap[g]? = some (.cells cs.toArray t (0, 0)) → (w.setCells g o vs).heap[g]? = some (.cells (putAt cs o vs).toArray t (0, 0))
  | [], _, _, _, h => h
  | v :: r, o, cs, w, h => by
    refine hpC r (o + 1) (cs.set o v) (w.setCell ⟨g, o, none⟩ v) ?_
    simp [World.setCell, Array.getElem?_modify, h]
theorem hpCo {g g' : Nat} {o' : Obj} (hp : g ≠ g') : ∀ (vs : List Value) (o : Nat) (w : World), w.heap[g]? = some o' → (w.setCells g' o vs).heap[g]? = some o'
  | [], _, _, h => h
  | v :: r, o, w, h => hpCo hp r (o + 1) (w.setCell ⟨g', o, none⟩ v) (hpS h (by exact hp) v)
theorem belowC {B g : Nat} {a : World} (hB : B ≤ g) : ∀ (vs : List Value) (o : Nat) (w : World), Below B a w → Below B a (w.setCells g o vs)
  | [], _, _, h => h
  | v :: r, o, w, h => belowC hB r (o + 1) (w.setCell ⟨g, o, none⟩ v) (h.setCell hB v)
theorem belowDrewS {B : Nat} {a w : World} (h : Below B a w) : Below B a w.drew := ⟨h.os, h.tape, h.output, h.size, h.block⟩
/-- element k of rows -/
theorem rowsGet {w : World} {B sz : Nat} {A : Option Addr} {α : Type} {enc : α → List Value} {ls : List α} (h : RowsAt w B A sz (ls.map enc)) {k : Nat} (hk : k < ls.length) : ∃ b off, A = some ⟨b, off, none⟩ ∧ b < B ∧ w.rangeAt b (off + k * sz) (enc ls[k]) := by
  obtain ⟨b, off, h1, h2, h3⟩ := h k (enc ls[k]) (by rw [List.getElem?_map, List.getElem?_eq_getElem hk]; rfl)
  exact ⟨b, off, h1, h2, fun j v hv => h3 j v hv⟩
theorem rangeB {w w' : World} {b o B : Nat} {cs : List Value} (h : w.rangeAt b o cs) (hb : Below B w w') (hB : b < B) : w'.rangeAt b o cs := fun j v hv => (hb.cell hB).trans (h j v hv)
theorem ownBelow {w w' : World} {base e size n : Nat} {v : Value} {xs : List Value} (h : w.ownsRow base e size v n xs) (hb : Below w.heap.size w w') : w'.ownsRow base e size v n xs := by
  rcases h.2 with h0 | ⟨g, cap, cur, hv, hb', hg, rest⟩
  · exact ⟨h.1, Or.inl h0⟩
  · exact ⟨h.1, Or.inr ⟨g, cap, cur, hv, hb', hpB hg hb, rest⟩⟩
end Go.Proofs.YtjofjpmhokjhnaaDoor
