/- What must be proposed: the plain law of Pick; rows of acceptors in an owned slice. No condition. -/
import Derived.Test.YtbahooohkigcnaaDoorAccArg
namespace Go.Proofs.YtbahooohkigcnaaDoor
set_option maxRecDepth 20000
open Go.RowKit T
set_option linter.unusedSimpArgs false
set_option linter.unusedVariables false
namespace T
def Ac.bless (a b : Ac) : Bool := B.less a.vr a.vn b.vr b.vn
/-- the greatest slot -/
def topOf : List Ac → Int
  | [] => 0
  | a :: t => t.foldl (fun m b => if m < b.sl then b.sl else m) a.sl
def takes (u : Int) (o a : Ac) : Bool := decide (a.sl = u) && a.ha && (!o.ha || o.bless a)
/-- the one with the greatest vote in the slot u -/
def best (u : Int) (l : List Ac) : Ac := l.foldl (fun o a => bif takes u o a then a else o) Ac.zero
end T
theorem topOf_snoc (l : List Ac) (b : Ac) : topOf (l ++ [b]) = if l = [] then b.sl else if topOf l < b.sl then b.sl else topOf l := by
  cases l with
  | nil => rfl
  | cons a t =>
    show (t ++ [b]).foldl _ a.sl = _
    rw [List.foldl_append, if_neg (by simp)]
    rfl
theorem best_snoc (u : Int) (l : List Ac) (a : Ac) : best u (l ++ [a]) = bif takes u (best u l) a then a else best u l := by
  unfold best
  rw [List.foldl_append]
  rfl
theorem best_nil (u : Int) : best u [] = Ac.zero := rfl
theorem topOf_max (t : List Ac) (m : Int) : (m ≤ t.foldl (fun m b => if m < b.sl then b.sl else m) m ∧ ∀ x ∈ t, x.sl ≤ t.foldl (fun m b => if m < b.sl then b.sl else m) m) ∧ (t.foldl (fun m b => if m < b.sl then b.sl else m) m = m ∨ ∃ x ∈ t, t.foldl (fun m b => if m < b.sl then b.sl else m) m = x.sl) := by
  induction t generalizing m with
  | nil => exact ⟨⟨Int.le_refl _, by simp⟩, Or.inl rfl⟩
  | cons a t ih =>
    simp only [List.foldl_cons]
    obtain ⟨⟨h1, h2⟩, h3⟩ := ih (if m < a.sl then a.sl else m)
    generalize t.foldl (fun m b => if m < b.sl then b.sl else m) (if m < a.sl then a.sl else m) = r at *
    by_cases hl : m < a.sl
    · rw [if_pos hl] at h1 h3
      refine ⟨⟨by omega, fun x hx => ?_⟩, ?_⟩
      · rcases List.mem_cons.1 hx with rfl | hx
        · exact h1
        · exact h2 x hx
      · rcases h3 with h3 | ⟨x, hx, h3⟩
        · exact Or.inr ⟨a, by simp, h3⟩
        · exact Or.inr ⟨x, by simp [hx], h3⟩
    · rw [if_neg hl] at h1 h3
      refine ⟨⟨h1, fun x hx => ?_⟩, ?_⟩
      · rcases List.mem_cons.1 hx with rfl | hx
        · omega
        · exact h2 x hx
      · rcases h3 with h3 | ⟨x, hx, h3⟩
        · exact Or.inl h3
        · exact Or.inr ⟨x, by simp [hx], h3⟩
theorem topOf_ge (l : List Ac) : ∀ x ∈ l, x.sl ≤ topOf l := by
  cases l with
  | nil => simp
  | cons a t =>
    intro x hx
    rcases List.mem_cons.1 hx with rfl | hx
    · exact (topOf_max t _).1.1
    · exact (topOf_max t _).1.2 x hx
theorem topOf_mem (l : List Ac) (h : l ≠ []) : ∃ x ∈ l, topOf l = x.sl := by
  cases l with
  | nil => exact absurd rfl h
  | cons a t =>
    rcases (topOf_max t a.sl).2 with h3 | ⟨x, hx, h3⟩
    · exact ⟨a, by simp, h3⟩
    · exact ⟨x, by simp [hx], h3⟩
theorem top_iff (l : List Ac) (x : Ac) (hx : x ∈ l) : (∀ y ∈ l, y.sl ≤ x.sl) ↔ x.sl = topOf l := by
  constructor
  · intro h
    obtain ⟨y, hy, he⟩ := topOf_mem l (fun e => by subst e; simp at hx)
    have h1 := topOf_ge l x hx
    have h2 := h y hy
    omega
  · intro h y hy
    rw [h]; exact topOf_ge l y hy
/-- the reference's state behind k acceptors -/
def PickAt (u : Int) (l : List Ac) (k : Nat) (bi : Int) : Prop :=
  (bi = -1 ∧ best u (l.take k) = Ac.zero) ∨ ∃ j : Nat, bi = (j : Int) ∧ l[j]? = some (best u (l.take k)) ∧ (best u (l.take k)).ha = true
theorem PickAt.zero (u : Int) (l : List Ac) : PickAt u l 0 (-1) := Or.inl ⟨rfl, rfl⟩
theorem PickAt.keep {u : Int} {l : List Ac} {k : Nat} {bi : Int} (h : PickAt u l k bi) (hk : k < l.length) (hn : takes u (best u (l.take k)) l[k] = false) : PickAt u l (k + 1) bi := by
  have e : best u (l.take (k + 1)) = best u (l.take k) := by rw [List.take_succ_eq_append_getElem hk, best_snoc, hn]; rfl
  unfold PickAt at *
  rw [e]; exact h
theorem PickAt.take {u : Int} {l : List Ac} {k : Nat} {bi : Int} (h : PickAt u l k bi) (hk : k < l.length) (hn : takes u (best u (l.take k)) l[k] = true) : PickAt u l (k + 1) (k : Int) := by
  have e : best u (l.take (k + 1)) = l[k] := by rw [List.take_succ_eq_append_getElem hk, best_snoc, hn]; rfl
  refine Or.inr ⟨k, rfl, by rw [e]; exact List.getElem?_eq_getElem hk, ?_⟩
  rw [e]
  unfold takes at hn
  cases hh : l[k].ha with
  | true => rfl
  | false => rw [hh] at hn; simp at hn
/-- the cells of a list of acceptors -/
def acCells (l : List Ac) : List Value := l.flatMap Ac.cells
theorem acCells_len (l : List Ac) : (acCells l).length = l.length * 16 := by
  induction l with
  | nil => rfl
  | cons a l ih => simp only [acCells, List.flatMap_cons, List.length_append, Ac.cells_len, List.length_cons] at ih ⊢; omega
theorem acCells_snoc (l : List Ac) (a : Ac) : acCells (l ++ [a]) = acCells l ++ a.cells := by simp [acCells]
theorem acCells_at (l : List Ac) (i : Nat) (a : Ac) (h : l[i]? = some a) (j : Nat) (v : Value) (hv : a.cells[j]? = some v) : (acCells l)[i * 16 + j]? = some v := by
  induction l generalizing i with
  | nil => simp at h
  | cons x l ih =>
    have e : acCells (x :: l) = x.cells ++ acCells l := by simp [acCells]
    have hj : j < 16 := by have := (List.getElem?_eq_some_iff.1 hv).1; rwa [Ac.cells_len] at this
    rw [e]
    cases i with
    | zero =>
      simp at h; subst h
      rw [Nat.zero_mul, Nat.zero_add, List.getElem?_append_left (by rw [Ac.cells_len]; exact hj)]
      exact hv
    | succ i =>
      rw [List.getElem?_append_right (by rw [Ac.cells_len]; omega), Ac.cells_len, show (i + 1) * 16 + j - 16 = i * 16 + j by omega]
      exact ih i (by simpa using h)
theorem acOwn {w : World} {base e : Nat} {v : Value} {l : List Ac} (h : w.ownsRow base e 16 v l.length (acCells l)) : ∃ (A : Option Addr) (c : Nat), v = .slice A l.length c ∧ l.length ≤ c ∧ RowsAt w w.heap.size A 16 (l.map Ac.cells) := by
  rcases h.2 with ⟨hv, h0⟩ | ⟨g, cap, cur, hv, _, hg, hle, _⟩
  · refine ⟨none, 0, by rw [hv, h0], by omega, fun i cs hi => ?_⟩
    have := (List.getElem?_eq_some_iff.1 hi).1
    rw [List.length_map] at this; omega
  · subst hv
    refine ⟨_, cap, rfl, hle, fun i cs hi => ?_⟩
    rw [List.getElem?_map] at hi
    obtain ⟨a, ha, rfl⟩ := Option.map_eq_some_iff.1 hi
    refine ⟨g, 0, rfl, (Array.getElem?_eq_some_iff.1 hg).1, fun j v hv => ?_⟩
    have c1 := h.cells (g := g) rfl _ _ (acCells_at l i a ha j v hv)
    rw [Addr.add_lit] at c1
    simpa [Nat.add_assoc] using c1
theorem bestOk (w : World) (l : List Ac) (h : ∀ a ∈ l, CmOk w w.heap.size a.c) (u : Int) (o : Ac) (ho : CmOk w w.heap.size o.c) : CmOk w w.heap.size (l.foldl (fun o a => bif takes u o a then a else o) o).c := by
  induction l generalizing o with
  | nil => exact ho
  | cons a t ih =>
    simp only [List.foldl_cons]
    refine ih (fun x hx => h x (by simp [hx])) _ ?_
    cases takes u o a with
    | false => exact ho
    | true => exact h a (by simp)
theorem Ac.votes (a : Ac) : ∀ j v, ([.int .u32 (a.vr : Int), .int .i64 a.vn] : List Value)[j]? = some v → a.cells[4 + j]? = some v := fun j v h => by
  match j, h with
  | 0, h => exact h
  | 1, h => exact h
end Go.Proofs.YtbahooohkigcnaaDoor
