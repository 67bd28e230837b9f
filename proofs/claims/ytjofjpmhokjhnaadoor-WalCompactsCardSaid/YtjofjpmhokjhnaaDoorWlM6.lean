/- Slices of bytes that lie in cells; rows of them. No condition. -/
import Derived.Test.YtjofjpmhokjhnaaDoorWlM2
import Derived.Test.YtjofjpmhokjhnaaDoorWlM5
import Derived.Test.YtjofjpmhokjhnaaDoorWlM1
import Derived.Laws.IdiomStrings
namespace Go.Proofs.YtjofjpmhokjhnaaDoor
set_option maxRecDepth 20000
open Go.RowKit
set_option linter.unusedSimpArgs false
set_option linter.unusedVariables false
abbrev Bl2 := Nat × Nat
def B.take (s : C.St) : Bl2 × C.St :=
  if (C.take 1 (C.take 4 s).2).2.2 = true ∨ B.formed ((C.take 1 (C.take 4 s).2).1 : Int) = false then ((0, 0), ((C.take 1 (C.take 4 s).2).2.1, true)) else (((C.take 4 s).1, (C.take 1 (C.take 4 s).2).1), (C.take 1 (C.take 4 s).2).2)

set_option maxHeartbeats 1600000 in
theorem btake_any (B0 g : Nat) (s : C.St) (w : World) (h : RdrAt w B0 g s) :
    Calls Tryd.prog 89 #[.pointer (some ⟨g, 0, none⟩)] w fun e w' => e = .returned (bal (B.take s).1.1 (B.take s).1.2) ∧ RdrAt w' B0 g (B.take s).2 ∧ w.grownBy w' (some g) := by
  have l1 := take_lt 4 s (by omega)
  have l2 := take_lt 1 (C.take 4 s).2 (by omega)
  have HT : Hid (B.take s = if (C.take 1 (C.take 4 s).2).2.2 = true ∨ B.formed ((C.take 1 (C.take 4 s).2).1 : Int) = false then ((0, 0), ((C.take 1 (C.take 4 s).2).2.1, true)) else (((C.take 4 s).1, (C.take 1 (C.take 4 s).2).1), (C.take 1 (C.take 4 s).2).2)) := rfl
  have T4 := take_any B0 g 4 s _ (h.alloc (.cells #[.int .u32 0, .int .i64 0] 24))
  have hlt : g < w.heap.size := by obtain ⟨_, _, hb, _⟩ := h; exact ltAt hb
  have T1 := fun w1 => take_any B0 g 1 (C.take 4 s).2 w1
  generalize C.take 4 s = t1 at *
  obtain ⟨x1, s1⟩ := t1
  simp only at *
  generalize C.take 1 s1 = t2 at *
  obtain ⟨x2, l2', f2⟩ := t2
  simp only at *
  have l1 : x1 < 4294967296 := l1
  have l2 : x2 < 256 := l2
  have HW1 : Hid (IntKind.u32.wrap (x1 : Int) = (x1 : Int)) := by
    show _ = _
    have e : IntKind.u32.wrap (x1 : Int) = (x1 : Int) % 4294967296 := rfl
    rw [e]; omega
  have HW2 : Hid (IntKind.i64.wrap (x2 : Int) = (x2 : Int)) := by show _ = _; rw [IntKind.wrap_i64]; omega
  go_enter Tryd.func89, Tryd.ntmps89
  go_wp2_with fail
  refine T4.mono ?_
  rintro e w1 ⟨rfl, h1, g1⟩
  go_wp2_with fail
  refine (T1 _ h1).mono ?_
  rintro e w2 ⟨rfl, h2, g2⟩
  have hB : B0 ≤ w.heap.size := by obtain ⟨_, _, _, _, _, _, _, hB⟩ := h; omega
  have hne : w.heap.size ≠ g := by omega
  have Z1 := heapG (heap_alloc_new w _) g1 hne
  have Z2 := heapG Z1 g2 hne
  have G2 := grownTrans (grownTrans (World.grownBy_alloc w _ (some g)) g1) g2
  have hs2 : w.heap.size + 1 ≤ w2.heap.size := by have a := g1.size; have b := g2.size; simp at a; omega
  clear g1 g2 T1 T4 Z1 h1
  go_wp2_with fail
  have h3 := h2.alloc (.cells #[.int .u32 (IntKind.u32.wrap (x1 : Int)), .int .i64 (IntKind.i64.wrap (x2 : Int))] 24)
  have Z3 := heapA Z2 (.cells #[.int .u32 (IntKind.u32.wrap (x1 : Int)), .int .i64 (IntKind.i64.wrap (x2 : Int))] 24)
  have G3 := grownAllocR G2 (.cells #[.int .u32 (IntKind.u32.wrap (x1 : Int)), .int .i64 (IntKind.i64.wrap (x2 : Int))] 24)
  rw [HW1.out, HW2.out] at h3 Z3 G3
  clear Z2 G2 h2
  have z0 := cellAt Z3 0
  have z1 := cellAt Z3 1
  have y0 := freeAt Z3 0
  have y1 := freeAt Z3 1
  refine (ok_any B0 g _ _ h3).mono ?_
  rintro e w3 ⟨rfl, hw3⟩
  rw [← hw3]
  have hzne : w.heap.size < w2.heap.size := by omega
  cases f2 with
  | true =>
    have HT2 : Hid (B.take s = ((0, 0), (l2', true))) := by have := HT.out; rw [if_pos (Or.inl rfl)] at this; exact this
    clear HT hw3
    go_wp2_with fail
    refine (take_any B0 g 9 _ _ h3).mono ?_
    rw [take9]
    rintro e w4 ⟨rfl, h4, g4⟩
    have Z4 := heapG Z3 g4 hne
    have G4 := grownTrans G3 g4
    have a0 := cellAt Z4 0
    have a1 := cellAt Z4 1
    have c0 := freeAt Z4 0
    have c1 := freeAt Z4 1
    have Z5 := setAt (setAt Z4 0 (.int .u32 0)) 1 (.int .i64 0)
    have r0 := cellAt Z5 0
    have r1 := cellAt Z5 1
    simp only [List.getElem?_toArray, List.getElem?_cons_zero, List.getElem?_cons_succ] at a0 a1
    simp at r0 r1
    go_wp2_with fail
    refine bodyPost_ret (v := bal 0 (0 : Nat)) (by simp [results, Tryd.results89, go_sem, r0, r1]) rfl ⟨by rw [HT2.out], by rw [HT2.out]; exact (h4.setNew hne hB _ _).setNew hne hB _ _, grownSetNew (grownSetNew G4 (Nat.le_refl _) _ _) (Nat.le_refl _) _ _⟩
  | false =>
    cases hf : B.formed (x2 : Int) with
    | false =>
      have HT2 : Hid (B.take s = ((0, 0), (l2', true))) := by have := HT.out; rw [if_pos (Or.inr hf)] at this; exact this
      have HF := Lib.hid hf
      clear HT hw3 hf
      have q0 : (w2.alloc (.cells #[.int .u32 (x1 : Int), .int .i64 (x2 : Int)] 24)).cell? ⟨w2.heap.size, 0, none⟩ = some (.int .u32 (x1 : Int)) := by simp
      have q1 : (w2.alloc (.cells #[.int .u32 (x1 : Int), .int .i64 (x2 : Int)] 24)).cell? ⟨w2.heap.size, 1, none⟩ = some (.int .i64 (x2 : Int)) := by simp
      go_wp2_with fail
      refine (bformed_any x1 x2 _).mono ?_
      rw [HF.out]
      rintro e w5 ⟨rfl, b5⟩
      have h5 := h3.below b5
      have Z5 := heapB Z3 b5
      have G5 := grownBelow G3 b5
      go_wp2_with fail
      refine (take_any B0 g 9 _ _ h5).mono ?_
      rw [take9]
      rintro e w4 ⟨rfl, h4, g4⟩
      have Z4 := heapG Z5 g4 hne
      have G4 := grownTrans G5 g4
      have a0 := cellAt Z4 0
      have a1 := cellAt Z4 1
      have c0 := freeAt Z4 0
      have c1 := freeAt Z4 1
      have Z6 := setAt (setAt Z4 0 (.int .u32 0)) 1 (.int .i64 0)
      have r0 := cellAt Z6 0
      have r1 := cellAt Z6 1
      simp only [List.getElem?_toArray, List.getElem?_cons_zero, List.getElem?_cons_succ] at a0 a1
      simp at r0 r1
      go_wp2_with fail
      refine bodyPost_ret (v := bal 0 (0 : Nat)) (by simp [results, Tryd.results89, go_sem, r0, r1]) rfl ⟨by rw [HT2.out], by rw [HT2.out]; exact (h4.setNew hne hB _ _).setNew hne hB _ _, grownSetNew (grownSetNew G4 (Nat.le_refl _) _ _) (Nat.le_refl _) _ _⟩
    | true =>
      have HT2 : Hid (B.take s = ((x1, x2), (l2', false))) := by have := HT.out; rw [if_neg (by simp [hf])] at this; exact this
      have HF := Lib.hid hf
      clear HT hw3 hf
      have q0 : (w2.alloc (.cells #[.int .u32 (x1 : Int), .int .i64 (x2 : Int)] 24)).cell? ⟨w2.heap.size, 0, none⟩ = some (.int .u32 (x1 : Int)) := by simp
      have q1 : (w2.alloc (.cells #[.int .u32 (x1 : Int), .int .i64 (x2 : Int)] 24)).cell? ⟨w2.heap.size, 1, none⟩ = some (.int .i64 (x2 : Int)) := by simp
      go_wp2_with fail
      refine (bformed_any x1 x2 _).mono ?_
      rw [HF.out]
      rintro e w5 ⟨rfl, b5⟩
      have h5 := h3.below b5
      have Z5 := heapB Z3 b5
      have G5 := grownBelow G3 b5
      have q0 := cellB b5 q0
      have q1 := cellB b5 q1
      have a0 := cellAt Z5 0
      have a1 := cellAt Z5 1
      have c0 := freeAt Z5 0
      have c1 := freeAt Z5 1
      have Z6 := setAt (setAt Z5 0 (.int .u32 (x1 : Int))) 1 (.int .i64 (x2 : Int))
      have r0 := cellAt Z6 0
      have r1 := cellAt Z6 1
      simp only [List.getElem?_toArray, List.getElem?_cons_zero, List.getElem?_cons_succ] at a0 a1
      simp at r0 r1
      go_wp2_with fail
      refine bodyPost_ret (v := bal x1 x2) (by simp [results, Tryd.results89, go_sem, r0, r1]) rfl ⟨by rw [HT2.out], by rw [HT2.out]; exact (h5.setNew hne hB _ _).setNew hne hB _ _, grownSetNew (grownSetNew G5 (Nat.le_refl _) _ _) (Nat.le_refl _) _ _⟩


theorem btake_lt (s : C.St) : (B.take s).1.1 < 4294967296 ∧ (B.take s).1.2 < 256 := by
  have l1 := take_lt 4 s (by omega)
  have l2 := take_lt 1 (C.take 4 s).2 (by omega)
  unfold B.take
  split
  · exact ⟨(by show 0 < 4294967296; decide), (by show 0 < 256; decide)⟩
  · exact ⟨l1, l2⟩
theorem btake_w (B0 g : Nat) (s : C.St) (w : World) (h : RdrAt w B0 g s) :
    Calls Tryd.prog 89 #[.pointer (some ⟨g, 0, none⟩)] w fun e w' => e = .returned (.agg [.int .u32 ((B.take s).1.1 : Int), .int .i64 ((B.take s).1.2 : Int)].toArray) ∧ RdrAt w' B0 g (B.take s).2 ∧ w.grownBy w' (some g) := btake_any B0 g s w h
end Go.Proofs.YtjofjpmhokjhnaaDoor

namespace Go.Proofs.YtjofjpmhokjhnaaDoor
set_option maxRecDepth 20001
open Go.RowKit
set_option linter.unusedSimpArgs false
set_option linter.unusedVariables false

/-- v is a slice that reads as the bytes l; it lies below block B -/
def SlF (w : World) (B : Nat) (v : Value) (l : List UInt8) : Prop :=
  ∃ A c, v = .slice A l.length c ∧ l.length ≤ c ∧ c ≤ maxLen ∧ (A = none → l = [] ∧ c = 0) ∧ Rd w B A (bc l)
section
variable {w w' : World} {B B' : Nat} {v : Value} {l : List UInt8}
theorem SlF.keep (h : SlF w B v l) (hk : ∀ p : Addr, p.block < B → w'.cell? p = w.cell? p) : SlF w' B v l := by
  obtain ⟨A, c, h1, h2, h3, h4, h5⟩ := h
  exact ⟨A, c, h1, h2, h3, h4, h5.keep hk⟩
theorem SlF.more (h : SlF w B v l) (hB : B ≤ B') : SlF w B' v l := by
  obtain ⟨A, c, h1, h2, h3, h4, h5⟩ := h
  exact ⟨A, c, h1, h2, h3, h4, h5.more hB⟩
theorem SlF.below (h : SlF w B v l) (hb : Below B w w') : SlF w' B v l := h.keep fun _ hp => hb.cell hp
theorem SlF.belowM (h : SlF w B v l) (hb : Below B' w w') (hB : B ≤ B') : SlF w' B v l := h.keep fun _ hp => (hb.mono hB).cell hp
theorem SlF.ofOwn {base n : Nat} (h : w.ownsRow base 5 1 v n (bc l)) : SlF w w.heap.size v l := by
  obtain ⟨A, c, rfl, hc, hA, hm⟩ := ownShape h
  have hn : n = l.length := by have := h.1; rw [bc_len] at this; omega
  subst hn
  exact ⟨A, c, rfl, hc, hm, fun h => ⟨List.eq_nil_of_length_eq_zero (hA h).1, (hA h).2⟩, Rd.ofOwn h⟩
theorem SlF.nil : SlF w B (.slice none 0 0) [] := ⟨none, 0, rfl, Nat.zero_le _, by simp [maxLen], fun _ => ⟨rfl, rfl⟩, Rd.nil⟩
end
/-- values that are slices of these bytes, one by one -/
def SlBs (w : World) (B : Nat) (vs : List Value) (ls : List (List UInt8)) : Prop :=
  vs.length = ls.length ∧ ∀ (i : Nat) (v : Value) (l : List UInt8), vs[i]? = some v → ls[i]? = some l → SlF w B v l
section
variable {w w' : World} {B B' : Nat} {vs : List Value} {ls : List (List UInt8)}
theorem SlBs.keep (h : SlBs w B vs ls) (hk : ∀ p : Addr, p.block < B → w'.cell? p = w.cell? p) : SlBs w' B vs ls := ⟨h.1, fun i v l h1 h2 => (h.2 i v l h1 h2).keep hk⟩
theorem SlBs.more (h : SlBs w B vs ls) (hB : B ≤ B') : SlBs w B' vs ls := ⟨h.1, fun i v l h1 h2 => (h.2 i v l h1 h2).more hB⟩
theorem SlBs.below (h : SlBs w B vs ls) (hb : Below B w w') : SlBs w' B vs ls := h.keep fun _ hp => hb.cell hp
theorem SlBs.belowM (h : SlBs w B vs ls) (hb : Below B' w w') (hB : B ≤ B') : SlBs w' B vs ls := h.keep fun _ hp => (hb.mono hB).cell hp
theorem SlBs.nil : SlBs w B [] [] := ⟨rfl, fun i v l h => by simp at h⟩
theorem SlBs.one {v : Value} {l : List UInt8} (h : SlF w B v l) : SlBs w B [v] [l] := by
  refine ⟨rfl, fun i u m h1 h2 => ?_⟩
  match i, h1, h2 with
  | 0, h1, h2 => simp at h1 h2; subst h1; subst h2; exact h
  | i + 1, h1, h2 => simp at h1
theorem SlBs.take (h : SlBs w B vs ls) (k : Nat) : SlBs w B (vs.take k) (ls.take k) := by
  refine ⟨by simp [h.1], fun i v l h1 h2 => ?_⟩
  rw [List.getElem?_take] at h1 h2
  split at h1
  · rename_i hi
    rw [if_pos hi] at h2
    exact h.2 i v l h1 h2
  · cases h1
theorem SlBs.cell (h : SlBs w B vs ls) : ∀ u ∈ vs, u.oneCell' = true := by
  intro u hu
  obtain ⟨i, hi, rfl⟩ := List.getElem_of_mem hu
  obtain ⟨A, c, e, _⟩ := h.2 i vs[i] (ls[i]'(by rw [← h.1]; exact hi)) (List.getElem?_eq_getElem hi) (List.getElem?_eq_getElem _)
  rw [e]; rfl
end
end Go.Proofs.YtjofjpmhokjhnaaDoor
