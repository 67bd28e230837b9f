/- Rows of memory that came in: the cells of a slice, element by element. No condition. -/
import Derived.Test.YtjofjpmhokjhnaaDoorArgs
namespace Go.Proofs.YtjofjpmhokjhnaaDoor
set_option maxRecDepth 20000
open Go.RowKit Go.ChangeShapes Go.WideShapes Go.ChangeAt Go.Deep
set_option linter.unusedSimpArgs false
set_option linter.unusedVariables false

/-- the cells at A hold rows of k cells each, all below B -/
def RowsAt (w : World) (B : Nat) (A : Option Addr) (k : Nat) (ls : List (List Value)) : Prop :=
  ∀ i cs, ls[i]? = some cs → ∃ b off, A = some ⟨b, off, none⟩ ∧ b < B ∧ ∀ j v, cs[j]? = some v → w.cell? ⟨b, off + i * k + j, none⟩ = some v
section
variable {w w' : World} {B B' k : Nat} {A : Option Addr} {ls : List (List Value)}
theorem RowsAt.nil : RowsAt w B A k [] := fun i cs h => by simp at h
theorem RowsAt.keep (h : RowsAt w B A k ls) (hk : ∀ p : Addr, p.block < B → w'.cell? p = w.cell? p) : RowsAt w' B A k ls := fun i cs hi => by
  obtain ⟨b, off, hA, hb, hc⟩ := h i cs hi
  exact ⟨b, off, hA, hb, fun j v hj => (hk _ hb).trans (hc j v hj)⟩
theorem RowsAt.below (h : RowsAt w B A k ls) (hb : Below B' w w') (hB : B ≤ B') : RowsAt w' B A k ls := h.keep fun p hp => hb.cell (Nat.lt_of_lt_of_le hp hB)
theorem RowsAt.more (h : RowsAt w B A k ls) (hB : B ≤ B') : RowsAt w B' A k ls := fun i cs hi => by
  obtain ⟨b, off, hA, hb, hc⟩ := h i cs hi
  exact ⟨b, off, hA, by omega, hc⟩
theorem RowsAt.alloc (h : RowsAt w B A k ls) (hB : B ≤ w.heap.size) (o : Obj) : RowsAt (w.alloc o) B A k ls := h.keep fun p hp => World.cell?_alloc_lt w o p (by omega)
theorem RowsAt.drewN (h : RowsAt w B A k ls) (n : Nat) : RowsAt (w.drewN n) B A k ls := h
theorem RowsAt.grown {g : Nat} (h : RowsAt w B A k ls) (hg : w.grownBy w' (some g)) (hB : B ≤ g) (hs : B ≤ w.heap.size) : RowsAt w' B A k ls := fun i cs hi => by
  obtain ⟨b, off, hA, hb, hc⟩ := h i cs hi
  exact ⟨b, off, hA, hb, fun j v hj => hg.cell (hc j v hj) (by simp; omega)⟩
/-- element i -/
theorem RowsAt.at_ (h : RowsAt w B A k ls) {i : Nat} (hi : i < ls.length) : ∃ b off, A = some ⟨b, off, none⟩ ∧ b < B ∧ ∀ j v, ls[i][j]? = some v → w.cell? ⟨b, off + i * k + j, none⟩ = some v := h i _ (List.getElem?_eq_getElem hi)
end
/-- a cell of a slice's type is a slice -/
theorem Cel.isSlice {W : World} {t e : TypeId} {v : Value} (h : Cel W t [v]) (ht : Tryd.prog.underlying t = some (.slice e)) : ∃ (A : Option Addr) (n c : Nat), v = .slice A n c := by
  obtain ⟨H, enc, fuel, x, h⟩ := h
  rcases open_slice ht h with ⟨h1, _⟩ | ⟨a, len, cap, m, k, D, Pl, h1, _⟩
  · simp at h1; exact ⟨_, _, _, h1⟩
  · simp at h1; exact ⟨_, _, _, h1⟩
/-- a slice that came in reads as rows of cells, and each of them as what its cells read as -/
theorem Cel.rows {α : Type} [Inhabited α] {W : World} {t e : TypeId} {A : Option Addr} {n c sz : Nat} (enc : α → List Value) (P : α → Prop) (h : Cel W t [.slice A n c]) (ht : Tryd.prog.underlying t = some (.slice e))
    (hsz : Tryd.prog.cellsOf e = sz) (hpos : 0 < sz) (hdec : ∀ cs, Cel W e cs → ∃ x, cs = enc x ∧ P x) :
    ∃ ls : List α, ls.length = n ∧ n ≤ c ∧ c ≤ maxLen ∧ (A = none → n = 0 ∧ c = 0) ∧ RowsAt W W.heap.size A sz (ls.map enc) ∧ ∀ x ∈ ls, P x := by
  obtain ⟨hn, hm, hA, hat⟩ := h.sliceAt ht sz hsz hpos
  by_cases h0 : 0 < n
  · obtain ⟨b, off, rfl, hb, hi⟩ := hat h0
    have hex : ∀ i, ∃ x : α, i < n → (P x ∧ ∀ j v, (enc x)[j]? = some v → W.cell? ⟨b, off + i * sz + j, none⟩ = some v) := by
      intro i
      by_cases hlt : i < n
      · obtain ⟨cs', hl, hce, hj⟩ := hi i hlt
        obtain ⟨x, rfl, hp⟩ := hdec _ hce
        exact ⟨x, fun _ => ⟨hp, fun j v hv => (hj j (by have := (List.getElem?_eq_some_iff.1 hv).1; omega)).trans hv⟩⟩
      · exact ⟨default, fun h => absurd h hlt⟩
    refine ⟨(List.range n).map fun i => (hex i).choose, by simp, hn, hm, hA, fun i cs hc => ?_, fun x hx => ?_⟩
    · rw [List.map_map, List.getElem?_map] at hc
      obtain ⟨i', hi', rfl⟩ := Option.map_eq_some_iff.1 hc
      obtain ⟨hlt, rfl⟩ := List.getElem?_eq_some_iff.1 hi'
      simp only [List.length_range] at hlt
      simp only [List.getElem_range, Function.comp]
      exact ⟨b, off, rfl, hb, ((hex i).choose_spec hlt).2⟩
    · obtain ⟨i, hi', rfl⟩ := List.mem_map.1 hx
      exact ((hex i).choose_spec (List.mem_range.1 hi')).1
  · obtain rfl : n = 0 := by omega
    exact ⟨[], rfl, hn, hm, hA, RowsAt.nil, fun x hx => by simp at hx⟩
theorem str_eta (t : ByteArray) : (⟨t.data.toList.toArray⟩ : ByteArray) = t := by
  obtain ⟨⟨l⟩⟩ := t
  rfl
theorem str_size (t : ByteArray) : t.data.toList.length = t.size := by rw [Array.length_toList]; rfl
end Go.Proofs.YtjofjpmhokjhnaaDoor
