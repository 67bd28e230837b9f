/- Slices of bytes that lie in cells; rows of them. No condition. -/
import Derived.Test.YtmlchhfahpcohaaCodeNew
import Derived.Test.YtmlchhfahpcohaaArgs
import Derived.Laws.IdiomStrings
namespace Go.Proofs.Ytmlchhfahpcohaa
open Go.RowKit
set_option linter.unusedSimpArgs false
set_option linter.unusedVariables false

/-- a block that was just made reads as its cells -/
theorem rdAlloc (w : World) (cs : List Value) (e : TypeId) (m : Nat × Nat) : Rd (w.alloc (.cells cs.toArray e m)) (w.heap.size + 1) (some ⟨w.heap.size, 0, none⟩) cs := fun j u hu => by
  refine ⟨w.heap.size, 0, rfl, by omega, ?_⟩
  rw [Nat.zero_add, World.cell?_alloc_mark, ← hu]; simp

/-- v is a slice that reads as the bytes l; it lies below block B -/
def SlB (w : World) (B : Nat) (v : Value) (l : List UInt8) : Prop :=
  ∃ A c, v = .slice A l.length c ∧ l.length ≤ c ∧ c ≤ maxLen ∧ (A = none → l = [] ∧ c = 0) ∧ Rd w B A (bc l)
section
variable {w w' : World} {B B' : Nat} {v : Value} {l : List UInt8}
theorem SlB.keep (h : SlB w B v l) (hk : ∀ p : Addr, p.block < B → w'.cell? p = w.cell? p) : SlB w' B v l := by
  obtain ⟨A, c, h1, h2, h3, h4, h5⟩ := h
  exact ⟨A, c, h1, h2, h3, h4, h5.keep hk⟩
theorem SlB.more (h : SlB w B v l) (hB : B ≤ B') : SlB w B' v l := by
  obtain ⟨A, c, h1, h2, h3, h4, h5⟩ := h
  exact ⟨A, c, h1, h2, h3, h4, h5.more hB⟩
theorem SlB.below (h : SlB w B v l) (hb : Below B w w') : SlB w' B v l := h.keep fun _ hp => hb.cell hp
theorem SlB.belowM (h : SlB w B v l) (hb : Below B' w w') (hB : B ≤ B') : SlB w' B v l := h.keep fun _ hp => (hb.mono hB).cell hp
theorem SlB.ofOwn {base n : Nat} (h : w.ownsRow base 5 1 v n (bc l)) : SlB w w.heap.size v l := by
  obtain ⟨A, c, rfl, hc, hA, hm⟩ := ownShape h
  have hn : n = l.length := by have := h.1; rw [bc_len] at this; omega
  subst hn
  exact ⟨A, c, rfl, hc, hm, fun h => ⟨List.eq_nil_of_length_eq_zero (hA h).1, (hA h).2⟩, Rd.ofOwn h⟩
theorem SlB.nil : SlB w B (.slice none 0 0) [] := ⟨none, 0, rfl, Nat.zero_le _, by simp [maxLen], fun _ => ⟨rfl, rfl⟩, Rd.nil⟩
end
/-- values that are slices of these bytes, one by one -/
def SlBs (w : World) (B : Nat) (vs : List Value) (ls : List (List UInt8)) : Prop :=
  vs.length = ls.length ∧ ∀ (i : Nat) (v : Value) (l : List UInt8), vs[i]? = some v → ls[i]? = some l → SlB w B v l
section
variable {w w' : World} {B B' : Nat} {vs : List Value} {ls : List (List UInt8)}
theorem SlBs.keep (h : SlBs w B vs ls) (hk : ∀ p : Addr, p.block < B → w'.cell? p = w.cell? p) : SlBs w' B vs ls := ⟨h.1, fun i v l h1 h2 => (h.2 i v l h1 h2).keep hk⟩
theorem SlBs.more (h : SlBs w B vs ls) (hB : B ≤ B') : SlBs w B' vs ls := ⟨h.1, fun i v l h1 h2 => (h.2 i v l h1 h2).more hB⟩
theorem SlBs.below (h : SlBs w B vs ls) (hb : Below B w w') : SlBs w' B vs ls := h.keep fun _ hp => hb.cell hp
theorem SlBs.belowM (h : SlBs w B vs ls) (hb : Below B' w w') (hB : B ≤ B') : SlBs w' B vs ls := h.keep fun _ hp => (hb.mono hB).cell hp
theorem SlBs.nil : SlBs w B [] [] := ⟨rfl, fun i v l h => by simp at h⟩
theorem SlBs.app {us : List Value} {ms : List (List UInt8)} (h : SlBs w B vs ls) (g : SlBs w B us ms) : SlBs w B (vs ++ us) (ls ++ ms) := by
  refine ⟨by simp [h.1, g.1], fun i v l h1 h2 => ?_⟩
  rw [List.getElem?_append] at h1 h2
  rw [h.1] at h1
  split at h1
  · rename_i hi
    rw [if_pos hi] at h2
    exact h.2 i v l h1 h2
  · rename_i hi
    rw [if_neg hi] at h2
    exact g.2 _ v l h1 h2
theorem SlBs.one {v : Value} {l : List UInt8} (h : SlB w B v l) : SlBs w B [v] [l] := by
  refine ⟨rfl, fun i u m h1 h2 => ?_⟩
  match i, h1, h2 with
  | 0, h1, h2 => simp at h1 h2; subst h1; subst h2; exact h
  | i + 1, h1, h2 => simp at h1
theorem SlBs.take (h : SlBs w B vs ls) (k : Nat) : SlBs w B (vs.take k) (ls.take k) := by
  refine ⟨by simp [h.1], fun i v l h1 h2 => ?_⟩
  rw [List.getElem?_take] at h1 h2
  split at h1
  · rename_i hi
    rw [if_pos hi] at h2
    exact h.2 i v l h1 h2
  · cases h1
theorem SlBs.cell (h : SlBs w B vs ls) : ∀ u ∈ vs, u.oneCell' = true := by
  intro u hu
  obtain ⟨i, hi, rfl⟩ := List.getElem_of_mem hu
  obtain ⟨A, c, e, _⟩ := h.2 i vs[i] (ls[i]'(by rw [← h.1]; exact hi)) (List.getElem?_eq_getElem hi) (List.getElem?_eq_getElem _)
  rw [e]; rfl
end
end Go.Proofs.Ytmlchhfahpcohaa
