/- The walk of txn.TakeId. Conditions: what lies, lies below; the tables lie; sizes. (Printed by gen_tio.py.) -/
import Derived.Test.YtjofjpmhokjhnaaDoorMbM12
import Derived.Test.YtjofjpmhokjhnaaDoorMbM4
import Derived.Test.YtjofjpmhokjhnaaDoorMbM6
import Derived.Test.YtjofjpmhokjhnaaDoorMbM10
import Derived.Test.YtjofjpmhokjhnaaDoorMbM1
import Derived.Great.BuildSlice
import Derived.Test.YtjofjpmhokjhnaaDoorMbM16
namespace Go.Proofs.YtjofjpmhokjhnaaDoor
set_option maxRecDepth 20000
open Go.RowKit
set_option linter.unusedSimpArgs false
set_option linter.unusedVariables false
abbrev Bl2 := Nat × Nat
def B.take (s : C.St) : Bl2 × C.St :=
 if (C.take 1 (C.take 4 s).2).2.2 = true ∨ B.formed ((C.take 1 (C.take 4 s).2).1 : Int) = false then ((0, 0), ((C.take 1 (C.take 4 s).2).2.1, true)) else (((C.take 4 s).1, (C.take 1 (C.take 4 s).2).1), (C.take 1 (C.take 4 s).2).2)

set_option maxHeartbeats 1600000 in
theorem btake_any (B0 g : Nat) (s : C.St) (w : World) (h : RdrAt w B0 g s) :
  Calls Tryd.prog 89 #[.pointer (some ⟨g, 0, none⟩)] w fun e w' => e = .returned (bal (B.take s).1.1 (B.take s).1.2) ∧ RdrAt w' B0 g (B.take s).2 ∧ w.grownBy w' (some g) := by
 have l1 := take_lt 4 s (by omega)
 have l2 := take_lt 1 (C.take 4 s).2 (by omega)
 have HT : Hid (B.take s = if (C.take 1 (C.take 4 s).2).2.2 = true ∨ B.formed ((C.take 1 (C.take 4 s).2).1 : Int) = false then ((0, 0), ((C.take 1 (C.take 4 s).2).2.1, true)) else (((C.take 4 s).1, (C.take 1 (C.take 4 s).2).1), (C.take 1 (C.take 4 s).2).2)) := rfl
 have T4 := take_any B0 g 4 s _ (h.alloc (.cells #[.int .u32 0, .int .i64 0] 24))
 have hlt : g < w.heap.size := by obtain ⟨_, _, hb, _⟩ := h; exact ltAt hb
 have T1 := fun w1 => take_any B0 g 1 (C.take 4 s).2 w1
 generalize C.take 4 s = t1 at *
 obtain ⟨x1, s1⟩ := t1
 simp only at *
 generalize C.take 1 s1 = t2 at *
 obtain ⟨x2, l2', f2⟩ := t2
 simp only at *
 have l1 : x1 < 4294967296 := l1
 have l2 : x2 < 256 := l2
 have HW1 : Hid (IntKind.u32.wrap (x1 : Int) = (x1 : Int)) := by
  show _ = _
  have e : IntKind.u32.wrap (x1 : Int) = (x1 : Int) % 4294967296 := rfl
  rw [e]; omega
 have HW2 : Hid (IntKind.i64.wrap (x2 : Int) = (x2 : Int)) := by show _ = _; rw [IntKind.wrap_i64]; omega
 go_enter Tryd.func89, Tryd.ntmps89
 go_wp2_with fail
 refine T4.mono ?_
 rintro e w1 ⟨rfl, h1, g1⟩
 go_wp2_with fail
 refine (T1 _ h1).mono ?_
 rintro e w2 ⟨rfl, h2, g2⟩
 have hB : B0 ≤ w.heap.size := by obtain ⟨_, _, _, _, _, _, _, hB⟩ := h; omega
 have hne : w.heap.size ≠ g := by omega
 have Z1 := heapG (heap_alloc_new w _) g1 hne
 have Z2 := heapG Z1 g2 hne
 have G2 := grownTrans (grownTrans (World.grownBy_alloc w _ (some g)) g1) g2
 have hs2 : w.heap.size + 1 ≤ w2.heap.size := by have a := g1.size; have b := g2.size; simp at a; omega
 clear g1 g2 T1 T4 Z1 h1
 go_wp2_with fail
 have h3 := h2.alloc (.cells #[.int .u32 (IntKind.u32.wrap (x1 : Int)), .int .i64 (IntKind.i64.wrap (x2 : Int))] 24)
 have Z3 := heapA Z2 (.cells #[.int .u32 (IntKind.u32.wrap (x1 : Int)), .int .i64 (IntKind.i64.wrap (x2 : Int))] 24)
 have G3 := grownAllocR G2 (.cells #[.int .u32 (IntKind.u32.wrap (x1 : Int)), .int .i64 (IntKind.i64.wrap (x2 : Int))] 24)
 rw [HW1.out, HW2.out] at h3 Z3 G3
 clear Z2 G2 h2
 have z0 := cellAt Z3 0
 have z1 := cellAt Z3 1
 have y0 := freeAt Z3 0
 have y1 := freeAt Z3 1
 refine (ok_any B0 g _ _ h3).mono ?_
 rintro e w3 ⟨rfl, hw3⟩
 rw [← hw3]
 have hzne : w.heap.size < w2.heap.size := by omega
 cases f2 with
 | true =>
  have HT2 : Hid (B.take s = ((0, 0), (l2', true))) := by have := HT.out; rw [if_pos (Or.inl rfl)] at this; exact this
  clear HT hw3
  go_wp2_with fail
  refine (take_any B0 g 9 _ _ h3).mono ?_
  rw [take9]
  rintro e w4 ⟨rfl, h4, g4⟩
  have Z4 := heapG Z3 g4 hne
  have G4 := grownTrans G3 g4
  have a0 := cellAt Z4 0
  have a1 := cellAt Z4 1
  have c0 := freeAt Z4 0
  have c1 := freeAt Z4 1
  have Z5 := setAt (setAt Z4 0 (.int .u32 0)) 1 (.int .i64 0)
  have r0 := cellAt Z5 0
  have r1 := cellAt Z5 1
  simp only [List.getElem?_toArray, List.getElem?_cons_zero, List.getElem?_cons_succ] at a0 a1
  simp at r0 r1
  go_wp2_with fail
  refine bodyPost_ret (v := bal 0 (0 : Nat)) (by simp [results, Tryd.results89, go_sem, r0, r1]) rfl ⟨by rw [HT2.out], by rw [HT2.out]; exact (h4.setNew hne hB _ _).setNew hne hB _ _, grownSetNew (grownSetNew G4 (Nat.le_refl _) _ _) (Nat.le_refl _) _ _⟩
 | false =>
  cases hf : B.formed (x2 : Int) with
  | false =>
   have HT2 : Hid (B.take s = ((0, 0), (l2', true))) := by have := HT.out; rw [if_pos (Or.inr hf)] at this; exact this
   have HF := Lib.hid hf
   clear HT hw3 hf
   have q0 : (w2.alloc (.cells #[.int .u32 (x1 : Int), .int .i64 (x2 : Int)] 24)).cell? ⟨w2.heap.size, 0, none⟩ = some (.int .u32 (x1 : Int)) := by simp
   have q1 : (w2.alloc (.cells #[.int .u32 (x1 : Int), .int .i64 (x2 : Int)] 24)).cell? ⟨w2.heap.size, 1, none⟩ = some (.int .i64 (x2 : Int)) := by simp
   go_wp2_with fail
   refine (bformed_any x1 x2 _).mono ?_
   rw [HF.out]
   rintro e w5 ⟨rfl, b5⟩
   have h5 := h3.below b5
   have Z5 := heapB Z3 b5
   have G5 := grownBelow G3 b5
   go_wp2_with fail
   refine (take_any B0 g 9 _ _ h5).mono ?_
   rw [take9]
   rintro e w4 ⟨rfl, h4, g4⟩
   have Z4 := heapG Z5 g4 hne
   have G4 := grownTrans G5 g4
   have a0 := cellAt Z4 0
   have a1 := cellAt Z4 1
   have c0 := freeAt Z4 0
   have c1 := freeAt Z4 1
   have Z6 := setAt (setAt Z4 0 (.int .u32 0)) 1 (.int .i64 0)
   have r0 := cellAt Z6 0
   have r1 := cellAt Z6 1
   simp only [List.getElem?_toArray, List.getElem?_cons_zero, List.getElem?_cons_succ] at a0 a1
   simp at r0 r1
   go_wp2_with fail
   refine bodyPost_ret (v := bal 0 (0 : Nat)) (by simp [results, Tryd.results89, go_sem, r0, r1]) rfl ⟨by rw [HT2.out], by rw [HT2.out]; exact (h4.setNew hne hB _ _).setNew hne hB _ _, grownSetNew (grownSetNew G4 (Nat.le_refl _) _ _) (Nat.le_refl _) _ _⟩
  | true =>
   have HT2 : Hid (B.take s = ((x1, x2), (l2', false))) := by have := HT.out; rw [if_neg (by simp [hf])] at this; exact this
   have HF := Lib.hid hf
   clear HT hw3 hf
   have q0 : (w2.alloc (.cells #[.int .u32 (x1 : Int), .int .i64 (x2 : Int)] 24)).cell? ⟨w2.heap.size, 0, none⟩ = some (.int .u32 (x1 : Int)) := by simp
   have q1 : (w2.alloc (.cells #[.int .u32 (x1 : Int), .int .i64 (x2 : Int)] 24)).cell? ⟨w2.heap.size, 1, none⟩ = some (.int .i64 (x2 : Int)) := by simp
   go_wp2_with fail
   refine (bformed_any x1 x2 _).mono ?_
   rw [HF.out]
   rintro e w5 ⟨rfl, b5⟩
   have h5 := h3.below b5
   have Z5 := heapB Z3 b5
   have G5 := grownBelow G3 b5
   have q0 := cellB b5 q0
   have q1 := cellB b5 q1
   have a0 := cellAt Z5 0
   have a1 := cellAt Z5 1
   have c0 := freeAt Z5 0
   have c1 := freeAt Z5 1
   have Z6 := setAt (setAt Z5 0 (.int .u32 (x1 : Int))) 1 (.int .i64 (x2 : Int))
   have r0 := cellAt Z6 0
   have r1 := cellAt Z6 1
   simp only [List.getElem?_toArray, List.getElem?_cons_zero, List.getElem?_cons_succ] at a0 a1
   simp at r0 r1
   go_wp2_with fail
   refine bodyPost_ret (v := bal x1 x2) (by simp [results, Tryd.results89, go_sem, r0, r1]) rfl ⟨by rw [HT2.out], by rw [HT2.out]; exact (h5.setNew hne hB _ _).setNew hne hB _ _, grownSetNew (grownSetNew G5 (Nat.le_refl _) _ _) (Nat.le_refl _) _ _⟩


theorem btake_lt (s : C.St) : (B.take s).1.1 < 4294967296 ∧ (B.take s).1.2 < 256 := by
 have l1 := take_lt 4 s (by omega)
 have l2 := take_lt 1 (C.take 4 s).2 (by omega)
 unfold B.take
 split
 ·exact ⟨(by show 0 < 4294967296; decide), (by show 0 < 256; decide)⟩
 ·exact ⟨l1, l2⟩
theorem btake_w (B0 g : Nat) (s : C.St) (w : World) (h : RdrAt w B0 g s) :
  Calls Tryd.prog 89 #[.pointer (some ⟨g, 0, none⟩)] w fun e w' => e = .returned (.agg [.int .u32 ((B.take s).1.1 : Int), .int .i64 ((B.take s).1.2 : Int)].toArray) ∧ RdrAt w' B0 g (B.take s).2 ∧ w.grownBy w' (some g) := btake_any B0 g s w h
end Go.Proofs.YtjofjpmhokjhnaaDoor

namespace Go.Proofs.YtjofjpmhokjhnaaDoor
set_option maxRecDepth 20001
open Go.RowKit
set_option linter.unusedSimpArgs false
set_option linter.unusedVariables false

/-- the tables lay in a world of old, and nothing below B was turned since -/
def TabsAt (B : Nat) (w : World) : Prop := ∃ W0, Tabs W0 ∧ W0.heap.size ≤ B ∧ Below W0.heap.size W0 w
section
variable {B : Nat} {w w' : World}
theorem TabsAt.of (h : Tabs w) (hB : w.heap.size ≤ B) : TabsAt B w := ⟨w, h, hB, Below.refl _ _⟩
theorem TabsAt.tabs (h : TabsAt B w) : Tabs w := by obtain ⟨W0, h0, _, hb⟩ := h; exact h0.below hb
theorem TabsAt.below {B' : Nat} (h : TabsAt B w) (hb : Below B' w w') (hB : B ≤ B') : TabsAt B w' := by obtain ⟨W0, h0, hs, hb0⟩ := h; exact ⟨W0, h0, hs, hb0.trans (hb.mono (by omega))⟩
theorem TabsAt.belowS (h : TabsAt B w) (hb : Below w.heap.size w w') : TabsAt B w' := by obtain ⟨W0, h0, hs, hb0⟩ := h; exact ⟨W0, h0, hs, hb0.trans (hb.mono hb0.size)⟩
theorem TabsAt.alloc (h : TabsAt B w) (o : Obj) : TabsAt B (w.alloc o) := h.belowS ((Below.refl _ _).alloc (Nat.le_refl _) _)
theorem TabsAt.grown {g : Nat} (h : TabsAt B w) (hg : w.grownBy w' (some g)) (hB : B ≤ g) : TabsAt B w' := by
 obtain ⟨W0, h0, hs, hb0⟩ := h
 exact ⟨W0, h0, hs, hb0.grown hg hb0.size (fun q hq => by injection hq with hq; omega)⟩
end
/-- what is taken before it is looked at -/
def V.take0 (s : C.St) : (Nat × Nat × List UInt8) × C.St :=
 if (C.take 1 s).1 = 1 then ((1, (C.take 8 (C.take 1 s).2).1, []), (C.take 8 (C.take 1 s).2).2)
 else if (C.take 1 s).1 = 2 then ((2, 0, (C.text 40 (C.take 1 s).2).1), (C.text 40 (C.take 1 s).2).2)
 else (((C.take 1 s).1, 0, []), (C.take 1 s).2)
def V.take (s : C.St) : (Nat × Nat × List UInt8) × C.St :=
 if (V.take0 s).2.2 = true ∨ V.formed (V.take0 s).1.1 (V.take0 s).1.2.1 (V.take0 s).1.2.2 = false then ((0, 0, []), ((V.take0 s).2.1, true)) else V.take0 s

set_option maxHeartbeats 1600000 in
theorem vtake_o_fail (B0 g : Nat) (w : World) (s : C.St) (h : RdrAt w B0 g s) (hT : TabsAt B0 w) (x : Nat) (ls : List UInt8) (e1 : C.take 1 s = (x, (ls, true))) (hx : x < 256) (hn1 : ¬ (x : Int) = 1) (hn2 : ¬ (x : Int) = 2) :
  Calls Tryd.prog 94 #[.pointer (some ⟨g, 0, none⟩)] w fun e w' => e = .returned (.agg #[.int .i64 (0), .int .u64 (0), .string (⟨#[]⟩)]) ∧ RdrAt w' B0 g (ls, true) ∧ w.grownBy w' (some g) := by
 have hlt : g < w.heap.size := by obtain ⟨_, _, hb, _⟩ := h; exact ltAt hb
 have hBg : B0 ≤ g := by obtain ⟨_, _, _, _, _, _, _, hB⟩ := h; exact hB
 have T1 := take_any B0 g 1 s _ (h.alloc (.cells #[.int .i64 0, .int .u64 0, .string ⟨#[]⟩] 35))
 rw [e1] at T1
 have hT := hT.alloc (.cells #[.int .i64 0, .int .u64 0, .string ⟨#[]⟩] 35)
 have hTB := hT
 go_enter Tryd.func94, Tryd.ntmps94
 go_wp2_with fail
 refine T1.mono ?_
 rintro e w1 ⟨rfl, h1, g1⟩
 have hB : B0 ≤ w.heap.size := by omega
 have hne : w.heap.size ≠ g := by omega
 have Z1 := heapG (heap_alloc_new w _) g1 hne
 have G1 := grownTrans (World.grownBy_alloc w _ (some g)) g1
 have hT := hT.grown g1 hBg
 have hs1 : w.heap.size + 1 ≤ w1.heap.size := by have a := g1.size; simp at a; omega
 clear g1 T1 h hTB
 go_wp2_with fail
 have hz := h1.alloc (.cells #[.int .i64 (x : Int), .int .u64 0, .string ⟨#[]⟩] 35)
 have Z := heapA Z1 (.cells #[.int .i64 (x : Int), .int .u64 0, .string ⟨#[]⟩] 35)
 have G := grownAllocR G1 (.cells #[.int .i64 (x : Int), .int .u64 0, .string ⟨#[]⟩] 35)
 have hT := hT.alloc (.cells #[.int .i64 (x : Int), .int .u64 0, .string ⟨#[]⟩] 35)
 have V := heap_alloc_new w1 (.cells #[.int .i64 (x : Int), .int .u64 0, .string ⟨#[]⟩] 35)
 obtain ⟨q, hq⟩ : ∃ q, q = w1.heap.size := ⟨_, rfl⟩
 rw [← hq] at V ⊢
 have hqr : w.heap.size < q := by omega
 have hqg : q ≠ g := by have := G1.size; omega
 clear hq
 generalize w1.alloc (.cells #[.int .i64 (x : Int), .int .u64 0, .string ⟨#[]⟩] 35) = wz at hz Z G hT V ⊢
 clear h1 Z1 G1 hs1
 refine (ok_any B0 g _ _ hz).mono ?_
 rintro e w9 ⟨rfl, hw9⟩
 rw [← hw9]
 clear hw9
 go_wp2_with fail
 refine (take_any B0 g 9 _ _ hz).mono ?_
 rw [take9]
 rintro e w4 ⟨rfl, h4, g4⟩
 have Z4 := heapG Z g4 hne
 have G4 := grownTrans G g4
 have a0 := cellAt Z4 0
 have a1 := cellAt Z4 1
 have a2 := cellAt Z4 2
 have c0 := freeAt Z4 0
 have c1 := freeAt Z4 1
 have c2 := freeAt Z4 2
 have ZZ := setAt (setAt (setAt Z4 0 (.int .i64 0)) 1 (.int .u64 0)) 2 (.string ⟨#[]⟩)
 have r0 := cellAt ZZ 0
 have r1 := cellAt ZZ 1
 have r2 := cellAt ZZ 2
 simp only [List.getElem?_toArray, List.getElem?_cons_zero, List.getElem?_cons_succ] at a0 a1 a2
 simp at r0 r1 r2
 go_wp2_with fail
 refine bodyPost_ret (v := .agg #[.int .i64 0, .int .u64 0, .string ⟨#[]⟩]) (by simp [results, Tryd.results94, go_sem, r0, r1, r2]) rfl ⟨rfl, ((h4.setNew hne hB _ _).setNew hne hB _ _).setNew hne hB _ _, grownSetNew (grownSetNew (grownSetNew G4 (Nat.le_refl _) _ _) (Nat.le_refl _) _ _) (Nat.le_refl _) _ _⟩
set_option maxHeartbeats 1600000 in
theorem vtake_o_bad (B0 g : Nat) (w : World) (s : C.St) (h : RdrAt w B0 g s) (hT : TabsAt B0 w) (x : Nat) (ls : List UInt8) (e1 : C.take 1 s = (x, (ls, false))) (hx : x < 256) (hn1 : ¬ (x : Int) = 1) (hn2 : ¬ (x : Int) = 2) (hf : V.formed (x : Int) 0 (⟨#[]⟩ : ByteArray).data.toList = false) :
  Calls Tryd.prog 94 #[.pointer (some ⟨g, 0, none⟩)] w fun e w' => e = .returned (.agg #[.int .i64 (0), .int .u64 (0), .string (⟨#[]⟩)]) ∧ RdrAt w' B0 g (ls, true) ∧ w.grownBy w' (some g) := by
 have HF := Lib.hid (fun z (hz : Tabs z) => formed_any (x : Int) 0 (⟨#[]⟩ : ByteArray) z hz)
 rw [hf] at HF
 unfold V.val at HF
 clear hf
 have hlt : g < w.heap.size := by obtain ⟨_, _, hb, _⟩ := h; exact ltAt hb
 have hBg : B0 ≤ g := by obtain ⟨_, _, _, _, _, _, _, hB⟩ := h; exact hB
 have T1 := take_any B0 g 1 s _ (h.alloc (.cells #[.int .i64 0, .int .u64 0, .string ⟨#[]⟩] 35))
 rw [e1] at T1
 have hT := hT.alloc (.cells #[.int .i64 0, .int .u64 0, .string ⟨#[]⟩] 35)
 have hTB := hT
 go_enter Tryd.func94, Tryd.ntmps94
 go_wp2_with fail
 refine T1.mono ?_
 rintro e w1 ⟨rfl, h1, g1⟩
 have hB : B0 ≤ w.heap.size := by omega
 have hne : w.heap.size ≠ g := by omega
 have Z1 := heapG (heap_alloc_new w _) g1 hne
 have G1 := grownTrans (World.grownBy_alloc w _ (some g)) g1
 have hT := hT.grown g1 hBg
 have hs1 : w.heap.size + 1 ≤ w1.heap.size := by have a := g1.size; simp at a; omega
 clear g1 T1 h hTB
 go_wp2_with fail
 have hz := h1.alloc (.cells #[.int .i64 (x : Int), .int .u64 0, .string ⟨#[]⟩] 35)
 have Z := heapA Z1 (.cells #[.int .i64 (x : Int), .int .u64 0, .string ⟨#[]⟩] 35)
 have G := grownAllocR G1 (.cells #[.int .i64 (x : Int), .int .u64 0, .string ⟨#[]⟩] 35)
 have hT := hT.alloc (.cells #[.int .i64 (x : Int), .int .u64 0, .string ⟨#[]⟩] 35)
 have V := heap_alloc_new w1 (.cells #[.int .i64 (x : Int), .int .u64 0, .string ⟨#[]⟩] 35)
 obtain ⟨q, hq⟩ : ∃ q, q = w1.heap.size := ⟨_, rfl⟩
 rw [← hq] at V ⊢
 have hqr : w.heap.size < q := by omega
 have hqg : q ≠ g := by have := G1.size; omega
 clear hq
 generalize w1.alloc (.cells #[.int .i64 (x : Int), .int .u64 0, .string ⟨#[]⟩] 35) = wz at hz Z G hT V ⊢
 clear h1 Z1 G1 hs1
 refine (ok_any B0 g _ _ hz).mono ?_
 rintro e w9 ⟨rfl, hw9⟩
 rw [← hw9]
 clear hw9
 have p0 := cellAt V 0
 have p1 := cellAt V 1
 have p2 := cellAt V 2
 simp only [List.getElem?_toArray, List.getElem?_cons_zero, List.getElem?_cons_succ] at p0 p1 p2
 go_wp2_with fail
 refine (HF.out _ hT.tabs).mono ?_
 rintro e w5 ⟨rfl, b5⟩
 have h5 := hz.below b5
 have Z5 := heapB Z b5
 have G5 := grownBelow G b5
 go_wp2_with fail
 refine (take_any B0 g 9 _ _ h5).mono ?_
 rw [take9]
 rintro e w4 ⟨rfl, h4, g4⟩
 have Z4 := heapG Z5 g4 hne
 have G4 := grownTrans G5 g4
 have a0 := cellAt Z4 0
 have a1 := cellAt Z4 1
 have a2 := cellAt Z4 2
 have c0 := freeAt Z4 0
 have c1 := freeAt Z4 1
 have c2 := freeAt Z4 2
 have ZZ := setAt (setAt (setAt Z4 0 (.int .i64 0)) 1 (.int .u64 0)) 2 (.string ⟨#[]⟩)
 have r0 := cellAt ZZ 0
 have r1 := cellAt ZZ 1
 have r2 := cellAt ZZ 2
 simp only [List.getElem?_toArray, List.getElem?_cons_zero, List.getElem?_cons_succ] at a0 a1 a2
 simp at r0 r1 r2
 go_wp2_with fail
 refine bodyPost_ret (v := .agg #[.int .i64 0, .int .u64 0, .string ⟨#[]⟩]) (by simp [results, Tryd.results94, go_sem, r0, r1, r2]) rfl ⟨rfl, ((h4.setNew hne hB _ _).setNew hne hB _ _).setNew hne hB _ _, grownSetNew (grownSetNew (grownSetNew G4 (Nat.le_refl _) _ _) (Nat.le_refl _) _ _) (Nat.le_refl _) _ _⟩
set_option maxHeartbeats 1600000 in
theorem vtake_o_fine (B0 g : Nat) (w : World) (s : C.St) (h : RdrAt w B0 g s) (hT : TabsAt B0 w) (x : Nat) (ls : List UInt8) (e1 : C.take 1 s = (x, (ls, false))) (hx : x < 256) (hn1 : ¬ (x : Int) = 1) (hn2 : ¬ (x : Int) = 2) (hf : V.formed (x : Int) 0 (⟨#[]⟩ : ByteArray).data.toList = true) :
  Calls Tryd.prog 94 #[.pointer (some ⟨g, 0, none⟩)] w fun e w' => e = .returned (.agg #[.int .i64 ((x : Int)), .int .u64 (0), .string (⟨#[]⟩)]) ∧ RdrAt w' B0 g (ls, false) ∧ w.grownBy w' (some g) := by
 have HF := Lib.hid (fun z (hz : Tabs z) => formed_any (x : Int) 0 (⟨#[]⟩ : ByteArray) z hz)
 rw [hf] at HF
 unfold V.val at HF
 clear hf
 have hlt : g < w.heap.size := by obtain ⟨_, _, hb, _⟩ := h; exact ltAt hb
 have hBg : B0 ≤ g := by obtain ⟨_, _, _, _, _, _, _, hB⟩ := h; exact hB
 have T1 := take_any B0 g 1 s _ (h.alloc (.cells #[.int .i64 0, .int .u64 0, .string ⟨#[]⟩] 35))
 rw [e1] at T1
 have hT := hT.alloc (.cells #[.int .i64 0, .int .u64 0, .string ⟨#[]⟩] 35)
 have hTB := hT
 go_enter Tryd.func94, Tryd.ntmps94
 go_wp2_with fail
 refine T1.mono ?_
 rintro e w1 ⟨rfl, h1, g1⟩
 have hB : B0 ≤ w.heap.size := by omega
 have hne : w.heap.size ≠ g := by omega
 have Z1 := heapG (heap_alloc_new w _) g1 hne
 have G1 := grownTrans (World.grownBy_alloc w _ (some g)) g1
 have hT := hT.grown g1 hBg
 have hs1 : w.heap.size + 1 ≤ w1.heap.size := by have a := g1.size; simp at a; omega
 clear g1 T1 h hTB
 go_wp2_with fail
 have hz := h1.alloc (.cells #[.int .i64 (x : Int), .int .u64 0, .string ⟨#[]⟩] 35)
 have Z := heapA Z1 (.cells #[.int .i64 (x : Int), .int .u64 0, .string ⟨#[]⟩] 35)
 have G := grownAllocR G1 (.cells #[.int .i64 (x : Int), .int .u64 0, .string ⟨#[]⟩] 35)
 have hT := hT.alloc (.cells #[.int .i64 (x : Int), .int .u64 0, .string ⟨#[]⟩] 35)
 have V := heap_alloc_new w1 (.cells #[.int .i64 (x : Int), .int .u64 0, .string ⟨#[]⟩] 35)
 obtain ⟨q, hq⟩ : ∃ q, q = w1.heap.size := ⟨_, rfl⟩
 rw [← hq] at V ⊢
 have hqr : w.heap.size < q := by omega
 have hqg : q ≠ g := by have := G1.size; omega
 clear hq
 generalize w1.alloc (.cells #[.int .i64 (x : Int), .int .u64 0, .string ⟨#[]⟩] 35) = wz at hz Z G hT V ⊢
 clear h1 Z1 G1 hs1
 refine (ok_any B0 g _ _ hz).mono ?_
 rintro e w9 ⟨rfl, hw9⟩
 rw [← hw9]
 clear hw9
 have p0 := cellAt V 0
 have p1 := cellAt V 1
 have p2 := cellAt V 2
 simp only [List.getElem?_toArray, List.getElem?_cons_zero, List.getElem?_cons_succ] at p0 p1 p2
 go_wp2_with fail
 refine (HF.out _ hT.tabs).mono ?_
 rintro e w5 ⟨rfl, b5⟩
 have h4 := hz.below b5
 have Z4 := heapB Z b5
 have G4 := grownBelow G b5
 have p0 := cellB b5 p0
 have p1 := cellB b5 p1
 have p2 := cellB b5 p2
 have a0 := cellAt Z4 0
 have a1 := cellAt Z4 1
 have a2 := cellAt Z4 2
 have c0 := freeAt Z4 0
 have c1 := freeAt Z4 1
 have c2 := freeAt Z4 2
 have ZZ := setAt (setAt (setAt Z4 0 (.int .i64 (x : Int))) 1 (.int .u64 0)) 2 (.string ⟨#[]⟩)
 have r0 := cellAt ZZ 0
 have r1 := cellAt ZZ 1
 have r2 := cellAt ZZ 2
 simp only [List.getElem?_toArray, List.getElem?_cons_zero, List.getElem?_cons_succ] at a0 a1 a2
 simp at r0 r1 r2
 go_wp2_with fail
 refine bodyPost_ret (v := .agg #[.int .i64 (x : Int), .int .u64 0, .string ⟨#[]⟩]) (by simp [results, Tryd.results94, go_sem, r0, r1, r2]) rfl ⟨rfl, ((h4.setNew hne hB _ _).setNew hne hB _ _).setNew hne hB _ _, grownSetNew (grownSetNew (grownSetNew G4 (Nat.le_refl _) _ _) (Nat.le_refl _) _ _) (Nat.le_refl _) _ _⟩
set_option maxHeartbeats 1600000 in
theorem vtake_1_fail (B0 g : Nat) (w : World) (s : C.St) (h : RdrAt w B0 g s) (hT : TabsAt B0 w) (s1 : C.St) (x2 : Nat) (ls : List UInt8) (e1 : C.take 1 s = (1, s1)) (e2 : C.take 8 s1 = (x2, (ls, true))) :
  Calls Tryd.prog 94 #[.pointer (some ⟨g, 0, none⟩)] w fun e w' => e = .returned (.agg #[.int .i64 (0), .int .u64 (0), .string (⟨#[]⟩)]) ∧ RdrAt w' B0 g (ls, true) ∧ w.grownBy w' (some g) := by
 have hlt : g < w.heap.size := by obtain ⟨_, _, hb, _⟩ := h; exact ltAt hb
 have hBg : B0 ≤ g := by obtain ⟨_, _, _, _, _, _, _, hB⟩ := h; exact hB
 have T1 := take_any B0 g 1 s _ (h.alloc (.cells #[.int .i64 0, .int .u64 0, .string ⟨#[]⟩] 35))
 rw [e1] at T1
 have hT := hT.alloc (.cells #[.int .i64 0, .int .u64 0, .string ⟨#[]⟩] 35)
 have hTB := hT
 go_enter Tryd.func94, Tryd.ntmps94
 go_wp2_with fail
 refine T1.mono ?_
 rintro e w1 ⟨rfl, h1, g1⟩
 have hB : B0 ≤ w.heap.size := by omega
 have hne : w.heap.size ≠ g := by omega
 have Z1 := heapG (heap_alloc_new w _) g1 hne
 have G1 := grownTrans (World.grownBy_alloc w _ (some g)) g1
 have hT := hT.grown g1 hBg
 have hs1 : w.heap.size + 1 ≤ w1.heap.size := by have a := g1.size; simp at a; omega
 clear g1 T1 h hTB
 go_wp2_with fail
 have h2 := h1.alloc (.cells #[.int .i64 1, .int .u64 0, .string ⟨#[]⟩] 35)
 have Z2 := heapA Z1 (.cells #[.int .i64 1, .int .u64 0, .string ⟨#[]⟩] 35)
 have G2 := grownAllocR G1 (.cells #[.int .i64 1, .int .u64 0, .string ⟨#[]⟩] 35)
 have hT := hT.alloc (.cells #[.int .i64 1, .int .u64 0, .string ⟨#[]⟩] 35)
 have V2 := heap_alloc_new w1 (.cells #[.int .i64 1, .int .u64 0, .string ⟨#[]⟩] 35)
 obtain ⟨q, hq⟩ : ∃ q, q = w1.heap.size := ⟨_, rfl⟩
 rw [← hq] at V2 ⊢
 have hqr : w.heap.size < q := by omega
 have hqg : q ≠ g := by have := G1.size; omega
 clear hq
 generalize w1.alloc (.cells #[.int .i64 1, .int .u64 0, .string ⟨#[]⟩] 35) = w2 at h2 Z2 G2 hT V2 ⊢
 clear h1 Z1 G1 hs1
 refine (take_any B0 g 8 _ _ h2).mono ?_
 rw [e2]
 rintro e w3 ⟨rfl, h3, g3⟩
 have Z3 := heapG Z2 g3 hne
 have V3 := heapG V2 g3 hqg
 have G3 := grownTrans G2 g3
 have hT := hT.grown g3 hBg
 clear g3 h2 Z2 G2 V2
 have v0 := cellAt V3 0
 have v1 := cellAt V3 1
 have v2 := cellAt V3 2
 have f0 := freeAt V3 0
 have f1 := freeAt V3 1
 have f2 := freeAt V3 2
 simp only [List.getElem?_toArray, List.getElem?_cons_zero, List.getElem?_cons_succ] at v0 v1 v2
 have hz := h3.setNew hqg (by omega) 1 (.int .u64 (x2 : Int))
 have Z := heapS Z3 (p := ⟨q, 1, none⟩) (by simp; omega) (.int .u64 (x2 : Int))
 have V := setAt V3 1 (.int .u64 (x2 : Int))
 have G := grownSetNew G3 (Nat.le_of_lt hqr) 1 (.int .u64 (x2 : Int))
 have hT := hT.grown (grownSet w3 q 1 (.int .u64 (x2 : Int))) (by omega)
 simp at V
 go_wp2_with fail
 generalize w3.setCell ⟨q, 1, none⟩ (.int .u64 (x2 : Int)) = wz at hz Z G hT V ⊢
 clear h3 Z3 G3 V3 v0 v1 v2 f0 f1 f2
 refine (ok_any B0 g _ _ hz).mono ?_
 rintro e w9 ⟨rfl, hw9⟩
 rw [← hw9]
 clear hw9
 go_wp2_with fail
 refine (take_any B0 g 9 _ _ hz).mono ?_
 rw [take9]
 rintro e w4 ⟨rfl, h4, g4⟩
 have Z4 := heapG Z g4 hne
 have G4 := grownTrans G g4
 have a0 := cellAt Z4 0
 have a1 := cellAt Z4 1
 have a2 := cellAt Z4 2
 have c0 := freeAt Z4 0
 have c1 := freeAt Z4 1
 have c2 := freeAt Z4 2
 have ZZ := setAt (setAt (setAt Z4 0 (.int .i64 0)) 1 (.int .u64 0)) 2 (.string ⟨#[]⟩)
 have r0 := cellAt ZZ 0
 have r1 := cellAt ZZ 1
 have r2 := cellAt ZZ 2
 simp only [List.getElem?_toArray, List.getElem?_cons_zero, List.getElem?_cons_succ] at a0 a1 a2
 simp at r0 r1 r2
 go_wp2_with fail
 refine bodyPost_ret (v := .agg #[.int .i64 0, .int .u64 0, .string ⟨#[]⟩]) (by simp [results, Tryd.results94, go_sem, r0, r1, r2]) rfl ⟨rfl, ((h4.setNew hne hB _ _).setNew hne hB _ _).setNew hne hB _ _, grownSetNew (grownSetNew (grownSetNew G4 (Nat.le_refl _) _ _) (Nat.le_refl _) _ _) (Nat.le_refl _) _ _⟩
set_option maxHeartbeats 1600000 in
theorem vtake_1_bad (B0 g : Nat) (w : World) (s : C.St) (h : RdrAt w B0 g s) (hT : TabsAt B0 w) (s1 : C.St) (x2 : Nat) (ls : List UInt8) (e1 : C.take 1 s = (1, s1)) (e2 : C.take 8 s1 = (x2, (ls, false))) (hf : V.formed 1 x2 (⟨#[]⟩ : ByteArray).data.toList = false) :
  Calls Tryd.prog 94 #[.pointer (some ⟨g, 0, none⟩)] w fun e w' => e = .returned (.agg #[.int .i64 (0), .int .u64 (0), .string (⟨#[]⟩)]) ∧ RdrAt w' B0 g (ls, true) ∧ w.grownBy w' (some g) := by
 have HF := Lib.hid (fun z (hz : Tabs z) => formed_any 1 x2 (⟨#[]⟩ : ByteArray) z hz)
 rw [hf] at HF
 unfold V.val at HF
 clear hf
 have hlt : g < w.heap.size := by obtain ⟨_, _, hb, _⟩ := h; exact ltAt hb
 have hBg : B0 ≤ g := by obtain ⟨_, _, _, _, _, _, _, hB⟩ := h; exact hB
 have T1 := take_any B0 g 1 s _ (h.alloc (.cells #[.int .i64 0, .int .u64 0, .string ⟨#[]⟩] 35))
 rw [e1] at T1
 have hT := hT.alloc (.cells #[.int .i64 0, .int .u64 0, .string ⟨#[]⟩] 35)
 have hTB := hT
 go_enter Tryd.func94, Tryd.ntmps94
 go_wp2_with fail
 refine T1.mono ?_
 rintro e w1 ⟨rfl, h1, g1⟩
 have hB : B0 ≤ w.heap.size := by omega
 have hne : w.heap.size ≠ g := by omega
 have Z1 := heapG (heap_alloc_new w _) g1 hne
 have G1 := grownTrans (World.grownBy_alloc w _ (some g)) g1
 have hT := hT.grown g1 hBg
 have hs1 : w.heap.size + 1 ≤ w1.heap.size := by have a := g1.size; simp at a; omega
 clear g1 T1 h hTB
 go_wp2_with fail
 have h2 := h1.alloc (.cells #[.int .i64 1, .int .u64 0, .string ⟨#[]⟩] 35)
 have Z2 := heapA Z1 (.cells #[.int .i64 1, .int .u64 0, .string ⟨#[]⟩] 35)
 have G2 := grownAllocR G1 (.cells #[.int .i64 1, .int .u64 0, .string ⟨#[]⟩] 35)
 have hT := hT.alloc (.cells #[.int .i64 1, .int .u64 0, .string ⟨#[]⟩] 35)
 have V2 := heap_alloc_new w1 (.cells #[.int .i64 1, .int .u64 0, .string ⟨#[]⟩] 35)
 obtain ⟨q, hq⟩ : ∃ q, q = w1.heap.size := ⟨_, rfl⟩
 rw [← hq] at V2 ⊢
 have hqr : w.heap.size < q := by omega
 have hqg : q ≠ g := by have := G1.size; omega
 clear hq
 generalize w1.alloc (.cells #[.int .i64 1, .int .u64 0, .string ⟨#[]⟩] 35) = w2 at h2 Z2 G2 hT V2 ⊢
 clear h1 Z1 G1 hs1
 refine (take_any B0 g 8 _ _ h2).mono ?_
 rw [e2]
 rintro e w3 ⟨rfl, h3, g3⟩
 have Z3 := heapG Z2 g3 hne
 have V3 := heapG V2 g3 hqg
 have G3 := grownTrans G2 g3
 have hT := hT.grown g3 hBg
 clear g3 h2 Z2 G2 V2
 have v0 := cellAt V3 0
 have v1 := cellAt V3 1
 have v2 := cellAt V3 2
 have f0 := freeAt V3 0
 have f1 := freeAt V3 1
 have f2 := freeAt V3 2
 simp only [List.getElem?_toArray, List.getElem?_cons_zero, List.getElem?_cons_succ] at v0 v1 v2
 have hz := h3.setNew hqg (by omega) 1 (.int .u64 (x2 : Int))
 have Z := heapS Z3 (p := ⟨q, 1, none⟩) (by simp; omega) (.int .u64 (x2 : Int))
 have V := setAt V3 1 (.int .u64 (x2 : Int))
 have G := grownSetNew G3 (Nat.le_of_lt hqr) 1 (.int .u64 (x2 : Int))
 have hT := hT.grown (grownSet w3 q 1 (.int .u64 (x2 : Int))) (by omega)
 simp at V
 go_wp2_with fail
 generalize w3.setCell ⟨q, 1, none⟩ (.int .u64 (x2 : Int)) = wz at hz Z G hT V ⊢
 clear h3 Z3 G3 V3 v0 v1 v2 f0 f1 f2
 refine (ok_any B0 g _ _ hz).mono ?_
 rintro e w9 ⟨rfl, hw9⟩
 rw [← hw9]
 clear hw9
 have p0 := cellAt V 0
 have p1 := cellAt V 1
 have p2 := cellAt V 2
 simp only [List.getElem?_toArray, List.getElem?_cons_zero, List.getElem?_cons_succ] at p0 p1 p2
 go_wp2_with fail
 refine (HF.out _ hT.tabs).mono ?_
 rintro e w5 ⟨rfl, b5⟩
 have h5 := hz.below b5
 have Z5 := heapB Z b5
 have G5 := grownBelow G b5
 go_wp2_with fail
 refine (take_any B0 g 9 _ _ h5).mono ?_
 rw [take9]
 rintro e w4 ⟨rfl, h4, g4⟩
 have Z4 := heapG Z5 g4 hne
 have G4 := grownTrans G5 g4
 have a0 := cellAt Z4 0
 have a1 := cellAt Z4 1
 have a2 := cellAt Z4 2
 have c0 := freeAt Z4 0
 have c1 := freeAt Z4 1
 have c2 := freeAt Z4 2
 have ZZ := setAt (setAt (setAt Z4 0 (.int .i64 0)) 1 (.int .u64 0)) 2 (.string ⟨#[]⟩)
 have r0 := cellAt ZZ 0
 have r1 := cellAt ZZ 1
 have r2 := cellAt ZZ 2
 simp only [List.getElem?_toArray, List.getElem?_cons_zero, List.getElem?_cons_succ] at a0 a1 a2
 simp at r0 r1 r2
 go_wp2_with fail
 refine bodyPost_ret (v := .agg #[.int .i64 0, .int .u64 0, .string ⟨#[]⟩]) (by simp [results, Tryd.results94, go_sem, r0, r1, r2]) rfl ⟨rfl, ((h4.setNew hne hB _ _).setNew hne hB _ _).setNew hne hB _ _, grownSetNew (grownSetNew (grownSetNew G4 (Nat.le_refl _) _ _) (Nat.le_refl _) _ _) (Nat.le_refl _) _ _⟩
set_option maxHeartbeats 1600000 in
theorem vtake_1_fine (B0 g : Nat) (w : World) (s : C.St) (h : RdrAt w B0 g s) (hT : TabsAt B0 w) (s1 : C.St) (x2 : Nat) (ls : List UInt8) (e1 : C.take 1 s = (1, s1)) (e2 : C.take 8 s1 = (x2, (ls, false))) (hf : V.formed 1 x2 (⟨#[]⟩ : ByteArray).data.toList = true) :
  Calls Tryd.prog 94 #[.pointer (some ⟨g, 0, none⟩)] w fun e w' => e = .returned (.agg #[.int .i64 (1), .int .u64 ((x2 : Int)), .string (⟨#[]⟩)]) ∧ RdrAt w' B0 g (ls, false) ∧ w.grownBy w' (some g) := by
 have HF := Lib.hid (fun z (hz : Tabs z) => formed_any 1 x2 (⟨#[]⟩ : ByteArray) z hz)
 rw [hf] at HF
 unfold V.val at HF
 clear hf
 have hlt : g < w.heap.size := by obtain ⟨_, _, hb, _⟩ := h; exact ltAt hb
 have hBg : B0 ≤ g := by obtain ⟨_, _, _, _, _, _, _, hB⟩ := h; exact hB
 have T1 := take_any B0 g 1 s _ (h.alloc (.cells #[.int .i64 0, .int .u64 0, .string ⟨#[]⟩] 35))
 rw [e1] at T1
 have hT := hT.alloc (.cells #[.int .i64 0, .int .u64 0, .string ⟨#[]⟩] 35)
 have hTB := hT
 go_enter Tryd.func94, Tryd.ntmps94
 go_wp2_with fail
 refine T1.mono ?_
 rintro e w1 ⟨rfl, h1, g1⟩
 have hB : B0 ≤ w.heap.size := by omega
 have hne : w.heap.size ≠ g := by omega
 have Z1 := heapG (heap_alloc_new w _) g1 hne
 have G1 := grownTrans (World.grownBy_alloc w _ (some g)) g1
 have hT := hT.grown g1 hBg
 have hs1 : w.heap.size + 1 ≤ w1.heap.size := by have a := g1.size; simp at a; omega
 clear g1 T1 h hTB
 go_wp2_with fail
 have h2 := h1.alloc (.cells #[.int .i64 1, .int .u64 0, .string ⟨#[]⟩] 35)
 have Z2 := heapA Z1 (.cells #[.int .i64 1, .int .u64 0, .string ⟨#[]⟩] 35)
 have G2 := grownAllocR G1 (.cells #[.int .i64 1, .int .u64 0, .string ⟨#[]⟩] 35)
 have hT := hT.alloc (.cells #[.int .i64 1, .int .u64 0, .string ⟨#[]⟩] 35)
 have V2 := heap_alloc_new w1 (.cells #[.int .i64 1, .int .u64 0, .string ⟨#[]⟩] 35)
 obtain ⟨q, hq⟩ : ∃ q, q = w1.heap.size := ⟨_, rfl⟩
 rw [← hq] at V2 ⊢
 have hqr : w.heap.size < q := by omega
 have hqg : q ≠ g := by have := G1.size; omega
 clear hq
 generalize w1.alloc (.cells #[.int .i64 1, .int .u64 0, .string ⟨#[]⟩] 35) = w2 at h2 Z2 G2 hT V2 ⊢
 clear h1 Z1 G1 hs1
 refine (take_any B0 g 8 _ _ h2).mono ?_
 rw [e2]
 rintro e w3 ⟨rfl, h3, g3⟩
 have Z3 := heapG Z2 g3 hne
 have V3 := heapG V2 g3 hqg
 have G3 := grownTrans G2 g3
 have hT := hT.grown g3 hBg
 clear g3 h2 Z2 G2 V2
 have v0 := cellAt V3 0
 have v1 := cellAt V3 1
 have v2 := cellAt V3 2
 have f0 := freeAt V3 0
 have f1 := freeAt V3 1
 have f2 := freeAt V3 2
 simp only [List.getElem?_toArray, List.getElem?_cons_zero, List.getElem?_cons_succ] at v0 v1 v2
 have hz := h3.setNew hqg (by omega) 1 (.int .u64 (x2 : Int))
 have Z := heapS Z3 (p := ⟨q, 1, none⟩) (by simp; omega) (.int .u64 (x2 : Int))
 have V := setAt V3 1 (.int .u64 (x2 : Int))
 have G := grownSetNew G3 (Nat.le_of_lt hqr) 1 (.int .u64 (x2 : Int))
 have hT := hT.grown (grownSet w3 q 1 (.int .u64 (x2 : Int))) (by omega)
 simp at V
 go_wp2_with fail
 generalize w3.setCell ⟨q, 1, none⟩ (.int .u64 (x2 : Int)) = wz at hz Z G hT V ⊢
 clear h3 Z3 G3 V3 v0 v1 v2 f0 f1 f2
 refine (ok_any B0 g _ _ hz).mono ?_
 rintro e w9 ⟨rfl, hw9⟩
 rw [← hw9]
 clear hw9
 have p0 := cellAt V 0
 have p1 := cellAt V 1
 have p2 := cellAt V 2
 simp only [List.getElem?_toArray, List.getElem?_cons_zero, List.getElem?_cons_succ] at p0 p1 p2
 go_wp2_with fail
 refine (HF.out _ hT.tabs).mono ?_
 rintro e w5 ⟨rfl, b5⟩
 have h4 := hz.below b5
 have Z4 := heapB Z b5
 have G4 := grownBelow G b5
 have p0 := cellB b5 p0
 have p1 := cellB b5 p1
 have p2 := cellB b5 p2
 have a0 := cellAt Z4 0
 have a1 := cellAt Z4 1
 have a2 := cellAt Z4 2
 have c0 := freeAt Z4 0
 have c1 := freeAt Z4 1
 have c2 := freeAt Z4 2
 have ZZ := setAt (setAt (setAt Z4 0 (.int .i64 1)) 1 (.int .u64 (x2 : Int))) 2 (.string ⟨#[]⟩)
 have r0 := cellAt ZZ 0
 have r1 := cellAt ZZ 1
 have r2 := cellAt ZZ 2
 simp only [List.getElem?_toArray, List.getElem?_cons_zero, List.getElem?_cons_succ] at a0 a1 a2
 simp at r0 r1 r2
 go_wp2_with fail
 refine bodyPost_ret (v := .agg #[.int .i64 1, .int .u64 (x2 : Int), .string ⟨#[]⟩]) (by simp [results, Tryd.results94, go_sem, r0, r1, r2]) rfl ⟨rfl, ((h4.setNew hne hB _ _).setNew hne hB _ _).setNew hne hB _ _, grownSetNew (grownSetNew (grownSetNew G4 (Nat.le_refl _) _ _) (Nat.le_refl _) _ _) (Nat.le_refl _) _ _⟩
set_option maxHeartbeats 1600000 in
theorem vtake_2_fail (B0 g : Nat) (w : World) (s : C.St) (h : RdrAt w B0 g s) (hT : TabsAt B0 w) (s1 : C.St) (o : List UInt8) (ls : List UInt8) (e1 : C.take 1 s = (2, s1)) (e2 : C.text 40 s1 = (o, (ls, true))) :
  Calls Tryd.prog 94 #[.pointer (some ⟨g, 0, none⟩)] w fun e w' => e = .returned (.agg #[.int .i64 (0), .int .u64 (0), .string (⟨#[]⟩)]) ∧ RdrAt w' B0 g (ls, true) ∧ w.grownBy w' (some g) := by
 have hlt : g < w.heap.size := by obtain ⟨_, _, hb, _⟩ := h; exact ltAt hb
 have hBg : B0 ≤ g := by obtain ⟨_, _, _, _, _, _, _, hB⟩ := h; exact hB
 have T1 := take_any B0 g 1 s _ (h.alloc (.cells #[.int .i64 0, .int .u64 0, .string ⟨#[]⟩] 35))
 rw [e1] at T1
 have hT := hT.alloc (.cells #[.int .i64 0, .int .u64 0, .string ⟨#[]⟩] 35)
 have hTB := hT
 go_enter Tryd.func94, Tryd.ntmps94
 go_wp2_with fail
 refine T1.mono ?_
 rintro e w1 ⟨rfl, h1, g1⟩
 have hB : B0 ≤ w.heap.size := by omega
 have hne : w.heap.size ≠ g := by omega
 have Z1 := heapG (heap_alloc_new w _) g1 hne
 have G1 := grownTrans (World.grownBy_alloc w _ (some g)) g1
 have hT := hT.grown g1 hBg
 have hs1 : w.heap.size + 1 ≤ w1.heap.size := by have a := g1.size; simp at a; omega
 clear g1 T1 h hTB
 go_wp2_with fail
 have h2 := h1.alloc (.cells #[.int .i64 2, .int .u64 0, .string ⟨#[]⟩] 35)
 have Z2 := heapA Z1 (.cells #[.int .i64 2, .int .u64 0, .string ⟨#[]⟩] 35)
 have G2 := grownAllocR G1 (.cells #[.int .i64 2, .int .u64 0, .string ⟨#[]⟩] 35)
 have hT := hT.alloc (.cells #[.int .i64 2, .int .u64 0, .string ⟨#[]⟩] 35)
 have V2 := heap_alloc_new w1 (.cells #[.int .i64 2, .int .u64 0, .string ⟨#[]⟩] 35)
 obtain ⟨q, hq⟩ : ∃ q, q = w1.heap.size := ⟨_, rfl⟩
 rw [← hq] at V2 ⊢
 have hqr : w.heap.size < q := by omega
 have hqg : q ≠ g := by have := G1.size; omega
 clear hq
 generalize w1.alloc (.cells #[.int .i64 2, .int .u64 0, .string ⟨#[]⟩] 35) = w2 at h2 Z2 G2 hT V2 ⊢
 clear h1 Z1 G1 hs1
 refine (text_any B0 g 40 _ _ h2).mono ?_
 rw [e2]
 rintro e w3 ⟨rfl, h3, g3⟩
 have Z3 := heapG Z2 g3 hne
 have V3 := heapG V2 g3 hqg
 have G3 := grownTrans G2 g3
 have hT := hT.grown g3 hBg
 clear g3 h2 Z2 G2 V2
 have v0 := cellAt V3 0
 have v1 := cellAt V3 1
 have v2 := cellAt V3 2
 have f0 := freeAt V3 0
 have f1 := freeAt V3 1
 have f2 := freeAt V3 2
 simp only [List.getElem?_toArray, List.getElem?_cons_zero, List.getElem?_cons_succ] at v0 v1 v2
 have hz := h3.setNew hqg (by omega) 2 (.string ⟨o.toArray⟩)
 have Z := heapS Z3 (p := ⟨q, 2, none⟩) (by simp; omega) (.string ⟨o.toArray⟩)
 have V := setAt V3 2 (.string ⟨o.toArray⟩)
 have G := grownSetNew G3 (Nat.le_of_lt hqr) 2 (.string ⟨o.toArray⟩)
 have hT := hT.grown (grownSet w3 q 2 (.string ⟨o.toArray⟩)) (by omega)
 simp at V
 go_wp2_with fail
 generalize w3.setCell ⟨q, 2, none⟩ (.string ⟨o.toArray⟩) = wz at hz Z G hT V ⊢
 clear h3 Z3 G3 V3 v0 v1 v2 f0 f1 f2
 refine (ok_any B0 g _ _ hz).mono ?_
 rintro e w9 ⟨rfl, hw9⟩
 rw [← hw9]
 clear hw9
 go_wp2_with fail
 refine (take_any B0 g 9 _ _ hz).mono ?_
 rw [take9]
 rintro e w4 ⟨rfl, h4, g4⟩
 have Z4 := heapG Z g4 hne
 have G4 := grownTrans G g4
 have a0 := cellAt Z4 0
 have a1 := cellAt Z4 1
 have a2 := cellAt Z4 2
 have c0 := freeAt Z4 0
 have c1 := freeAt Z4 1
 have c2 := freeAt Z4 2
 have ZZ := setAt (setAt (setAt Z4 0 (.int .i64 0)) 1 (.int .u64 0)) 2 (.string ⟨#[]⟩)
 have r0 := cellAt ZZ 0
 have r1 := cellAt ZZ 1
 have r2 := cellAt ZZ 2
 simp only [List.getElem?_toArray, List.getElem?_cons_zero, List.getElem?_cons_succ] at a0 a1 a2
 simp at r0 r1 r2
 go_wp2_with fail
 refine bodyPost_ret (v := .agg #[.int .i64 0, .int .u64 0, .string ⟨#[]⟩]) (by simp [results, Tryd.results94, go_sem, r0, r1, r2]) rfl ⟨rfl, ((h4.setNew hne hB _ _).setNew hne hB _ _).setNew hne hB _ _, grownSetNew (grownSetNew (grownSetNew G4 (Nat.le_refl _) _ _) (Nat.le_refl _) _ _) (Nat.le_refl _) _ _⟩
set_option maxHeartbeats 1600000 in
theorem vtake_2_bad (B0 g : Nat) (w : World) (s : C.St) (h : RdrAt w B0 g s) (hT : TabsAt B0 w) (s1 : C.St) (o : List UInt8) (ls : List UInt8) (e1 : C.take 1 s = (2, s1)) (e2 : C.text 40 s1 = (o, (ls, false))) (hf : V.formed 2 0 (⟨o.toArray⟩ : ByteArray).data.toList = false) :
  Calls Tryd.prog 94 #[.pointer (some ⟨g, 0, none⟩)] w fun e w' => e = .returned (.agg #[.int .i64 (0), .int .u64 (0), .string (⟨#[]⟩)]) ∧ RdrAt w' B0 g (ls, true) ∧ w.grownBy w' (some g) := by
 have HF := Lib.hid (fun z (hz : Tabs z) => formed_any 2 0 (⟨o.toArray⟩ : ByteArray) z hz)
 rw [hf] at HF
 unfold V.val at HF
 clear hf
 have hlt : g < w.heap.size := by obtain ⟨_, _, hb, _⟩ := h; exact ltAt hb
 have hBg : B0 ≤ g := by obtain ⟨_, _, _, _, _, _, _, hB⟩ := h; exact hB
 have T1 := take_any B0 g 1 s _ (h.alloc (.cells #[.int .i64 0, .int .u64 0, .string ⟨#[]⟩] 35))
 rw [e1] at T1
 have hT := hT.alloc (.cells #[.int .i64 0, .int .u64 0, .string ⟨#[]⟩] 35)
 have hTB := hT
 go_enter Tryd.func94, Tryd.ntmps94
 go_wp2_with fail
 refine T1.mono ?_
 rintro e w1 ⟨rfl, h1, g1⟩
 have hB : B0 ≤ w.heap.size := by omega
 have hne : w.heap.size ≠ g := by omega
 have Z1 := heapG (heap_alloc_new w _) g1 hne
 have G1 := grownTrans (World.grownBy_alloc w _ (some g)) g1
 have hT := hT.grown g1 hBg
 have hs1 : w.heap.size + 1 ≤ w1.heap.size := by have a := g1.size; simp at a; omega
 clear g1 T1 h hTB
 go_wp2_with fail
 have h2 := h1.alloc (.cells #[.int .i64 2, .int .u64 0, .string ⟨#[]⟩] 35)
 have Z2 := heapA Z1 (.cells #[.int .i64 2, .int .u64 0, .string ⟨#[]⟩] 35)
 have G2 := grownAllocR G1 (.cells #[.int .i64 2, .int .u64 0, .string ⟨#[]⟩] 35)
 have hT := hT.alloc (.cells #[.int .i64 2, .int .u64 0, .string ⟨#[]⟩] 35)
 have V2 := heap_alloc_new w1 (.cells #[.int .i64 2, .int .u64 0, .string ⟨#[]⟩] 35)
 obtain ⟨q, hq⟩ : ∃ q, q = w1.heap.size := ⟨_, rfl⟩
 rw [← hq] at V2 ⊢
 have hqr : w.heap.size < q := by omega
 have hqg : q ≠ g := by have := G1.size; omega
 clear hq
 generalize w1.alloc (.cells #[.int .i64 2, .int .u64 0, .string ⟨#[]⟩] 35) = w2 at h2 Z2 G2 hT V2 ⊢
 clear h1 Z1 G1 hs1
 refine (text_any B0 g 40 _ _ h2).mono ?_
 rw [e2]
 rintro e w3 ⟨rfl, h3, g3⟩
 have Z3 := heapG Z2 g3 hne
 have V3 := heapG V2 g3 hqg
 have G3 := grownTrans G2 g3
 have hT := hT.grown g3 hBg
 clear g3 h2 Z2 G2 V2
 have v0 := cellAt V3 0
 have v1 := cellAt V3 1
 have v2 := cellAt V3 2
 have f0 := freeAt V3 0
 have f1 := freeAt V3 1
 have f2 := freeAt V3 2
 simp only [List.getElem?_toArray, List.getElem?_cons_zero, List.getElem?_cons_succ] at v0 v1 v2
 have hz := h3.setNew hqg (by omega) 2 (.string ⟨o.toArray⟩)
 have Z := heapS Z3 (p := ⟨q, 2, none⟩) (by simp; omega) (.string ⟨o.toArray⟩)
 have V := setAt V3 2 (.string ⟨o.toArray⟩)
 have G := grownSetNew G3 (Nat.le_of_lt hqr) 2 (.string ⟨o.toArray⟩)
 have hT := hT.grown (grownSet w3 q 2 (.string ⟨o.toArray⟩)) (by omega)
 simp at V
 go_wp2_with fail
 generalize w3.setCell ⟨q, 2, none⟩ (.string ⟨o.toArray⟩) = wz at hz Z G hT V ⊢
 clear h3 Z3 G3 V3 v0 v1 v2 f0 f1 f2
 refine (ok_any B0 g _ _ hz).mono ?_
 rintro e w9 ⟨rfl, hw9⟩
 rw [← hw9]
 clear hw9
 have p0 := cellAt V 0
 have p1 := cellAt V 1
 have p2 := cellAt V 2
 simp only [List.getElem?_toArray, List.getElem?_cons_zero, List.getElem?_cons_succ] at p0 p1 p2
 go_wp2_with fail
 refine (HF.out _ hT.tabs).mono ?_
 rintro e w5 ⟨rfl, b5⟩
 have h5 := hz.below b5
 have Z5 := heapB Z b5
 have G5 := grownBelow G b5
 go_wp2_with fail
 refine (take_any B0 g 9 _ _ h5).mono ?_
 rw [take9]
 rintro e w4 ⟨rfl, h4, g4⟩
 have Z4 := heapG Z5 g4 hne
 have G4 := grownTrans G5 g4
 have a0 := cellAt Z4 0
 have a1 := cellAt Z4 1
 have a2 := cellAt Z4 2
 have c0 := freeAt Z4 0
 have c1 := freeAt Z4 1
 have c2 := freeAt Z4 2
 have ZZ := setAt (setAt (setAt Z4 0 (.int .i64 0)) 1 (.int .u64 0)) 2 (.string ⟨#[]⟩)
 have r0 := cellAt ZZ 0
 have r1 := cellAt ZZ 1
 have r2 := cellAt ZZ 2
 simp only [List.getElem?_toArray, List.getElem?_cons_zero, List.getElem?_cons_succ] at a0 a1 a2
 simp at r0 r1 r2
 go_wp2_with fail
 refine bodyPost_ret (v := .agg #[.int .i64 0, .int .u64 0, .string ⟨#[]⟩]) (by simp [results, Tryd.results94, go_sem, r0, r1, r2]) rfl ⟨rfl, ((h4.setNew hne hB _ _).setNew hne hB _ _).setNew hne hB _ _, grownSetNew (grownSetNew (grownSetNew G4 (Nat.le_refl _) _ _) (Nat.le_refl _) _ _) (Nat.le_refl _) _ _⟩
set_option maxHeartbeats 1600000 in
theorem vtake_2_fine (B0 g : Nat) (w : World) (s : C.St) (h : RdrAt w B0 g s) (hT : TabsAt B0 w) (s1 : C.St) (o : List UInt8) (ls : List UInt8) (e1 : C.take 1 s = (2, s1)) (e2 : C.text 40 s1 = (o, (ls, false))) (hf : V.formed 2 0 (⟨o.toArray⟩ : ByteArray).data.toList = true) :
  Calls Tryd.prog 94 #[.pointer (some ⟨g, 0, none⟩)] w fun e w' => e = .returned (.agg #[.int .i64 (2), .int .u64 (0), .string (⟨o.toArray⟩)]) ∧ RdrAt w' B0 g (ls, false) ∧ w.grownBy w' (some g) := by
 have HF := Lib.hid (fun z (hz : Tabs z) => formed_any 2 0 (⟨o.toArray⟩ : ByteArray) z hz)
 rw [hf] at HF
 unfold V.val at HF
 clear hf
 have hlt : g < w.heap.size := by obtain ⟨_, _, hb, _⟩ := h; exact ltAt hb
 have hBg : B0 ≤ g := by obtain ⟨_, _, _, _, _, _, _, hB⟩ := h; exact hB
 have T1 := take_any B0 g 1 s _ (h.alloc (.cells #[.int .i64 0, .int .u64 0, .string ⟨#[]⟩] 35))
 rw [e1] at T1
 have hT := hT.alloc (.cells #[.int .i64 0, .int .u64 0, .string ⟨#[]⟩] 35)
 have hTB := hT
 go_enter Tryd.func94, Tryd.ntmps94
 go_wp2_with fail
 refine T1.mono ?_
 rintro e w1 ⟨rfl, h1, g1⟩
 have hB : B0 ≤ w.heap.size := by omega
 have hne : w.heap.size ≠ g := by omega
 have Z1 := heapG (heap_alloc_new w _) g1 hne
 have G1 := grownTrans (World.grownBy_alloc w _ (some g)) g1
 have hT := hT.grown g1 hBg
 have hs1 : w.heap.size + 1 ≤ w1.heap.size := by have a := g1.size; simp at a; omega
 clear g1 T1 h hTB
 go_wp2_with fail
 have h2 := h1.alloc (.cells #[.int .i64 2, .int .u64 0, .string ⟨#[]⟩] 35)
 have Z2 := heapA Z1 (.cells #[.int .i64 2, .int .u64 0, .string ⟨#[]⟩] 35)
 have G2 := grownAllocR G1 (.cells #[.int .i64 2, .int .u64 0, .string ⟨#[]⟩] 35)
 have hT := hT.alloc (.cells #[.int .i64 2, .int .u64 0, .string ⟨#[]⟩] 35)
 have V2 := heap_alloc_new w1 (.cells #[.int .i64 2, .int .u64 0, .string ⟨#[]⟩] 35)
 obtain ⟨q, hq⟩ : ∃ q, q = w1.heap.size := ⟨_, rfl⟩
 rw [← hq] at V2 ⊢
 have hqr : w.heap.size < q := by omega
 have hqg : q ≠ g := by have := G1.size; omega
 clear hq
 generalize w1.alloc (.cells #[.int .i64 2, .int .u64 0, .string ⟨#[]⟩] 35) = w2 at h2 Z2 G2 hT V2 ⊢
 clear h1 Z1 G1 hs1
 refine (text_any B0 g 40 _ _ h2).mono ?_
 rw [e2]
 rintro e w3 ⟨rfl, h3, g3⟩
 have Z3 := heapG Z2 g3 hne
 have V3 := heapG V2 g3 hqg
 have G3 := grownTrans G2 g3
 have hT := hT.grown g3 hBg
 clear g3 h2 Z2 G2 V2
 have v0 := cellAt V3 0
 have v1 := cellAt V3 1
 have v2 := cellAt V3 2
 have f0 := freeAt V3 0
 have f1 := freeAt V3 1
 have f2 := freeAt V3 2
 simp only [List.getElem?_toArray, List.getElem?_cons_zero, List.getElem?_cons_succ] at v0 v1 v2
 have hz := h3.setNew hqg (by omega) 2 (.string ⟨o.toArray⟩)
 have Z := heapS Z3 (p := ⟨q, 2, none⟩) (by simp; omega) (.string ⟨o.toArray⟩)
 have V := setAt V3 2 (.string ⟨o.toArray⟩)
 have G := grownSetNew G3 (Nat.le_of_lt hqr) 2 (.string ⟨o.toArray⟩)
 have hT := hT.grown (grownSet w3 q 2 (.string ⟨o.toArray⟩)) (by omega)
 simp at V
 go_wp2_with fail
 generalize w3.setCell ⟨q, 2, none⟩ (.string ⟨o.toArray⟩) = wz at hz Z G hT V ⊢
 clear h3 Z3 G3 V3 v0 v1 v2 f0 f1 f2
 refine (ok_any B0 g _ _ hz).mono ?_
 rintro e w9 ⟨rfl, hw9⟩
 rw [← hw9]
 clear hw9
 have p0 := cellAt V 0
 have p1 := cellAt V 1
 have p2 := cellAt V 2
 simp only [List.getElem?_toArray, List.getElem?_cons_zero, List.getElem?_cons_succ] at p0 p1 p2
 go_wp2_with fail
 refine (HF.out _ hT.tabs).mono ?_
 rintro e w5 ⟨rfl, b5⟩
 have h4 := hz.below b5
 have Z4 := heapB Z b5
 have G4 := grownBelow G b5
 have p0 := cellB b5 p0
 have p1 := cellB b5 p1
 have p2 := cellB b5 p2
 have a0 := cellAt Z4 0
 have a1 := cellAt Z4 1
 have a2 := cellAt Z4 2
 have c0 := freeAt Z4 0
 have c1 := freeAt Z4 1
 have c2 := freeAt Z4 2
 have ZZ := setAt (setAt (setAt Z4 0 (.int .i64 2)) 1 (.int .u64 0)) 2 (.string ⟨o.toArray⟩)
 have r0 := cellAt ZZ 0
 have r1 := cellAt ZZ 1
 have r2 := cellAt ZZ 2
 simp only [List.getElem?_toArray, List.getElem?_cons_zero, List.getElem?_cons_succ] at a0 a1 a2
 simp at r0 r1 r2
 go_wp2_with fail
 refine bodyPost_ret (v := .agg #[.int .i64 2, .int .u64 0, .string ⟨o.toArray⟩]) (by simp [results, Tryd.results94, go_sem, r0, r1, r2]) rfl ⟨rfl, ((h4.setNew hne hB _ _).setNew hne hB _ _).setNew hne hB _ _, grownSetNew (grownSetNew (grownSetNew G4 (Nat.le_refl _) _ _) (Nat.le_refl _) _ _) (Nat.le_refl _) _ _⟩
theorem take1_lt (s : C.St) : (C.take 1 s).1 < 256 := take_lt 1 s (by omega)
theorem take8_lt (s : C.St) : (C.take 8 s).1 < 18446744073709551616 := take_lt 8 s (by omega)
theorem vtake_any (B0 g : Nat) (w : World) (s : C.St) (h : RdrAt w B0 g s) (hT : TabsAt B0 w) :
  Calls Tryd.prog 94 #[.pointer (some ⟨g, 0, none⟩)] w fun e w' => e = .returned (V.val ((V.take s).1.1 : Int) (V.take s).1.2.1 ⟨(V.take s).1.2.2.toArray⟩) ∧ RdrAt w' B0 g (V.take s).2 ∧ w.grownBy w' (some g) := by
 have hx := take1_lt s
 have l8 := take8_lt (C.take 1 s).2
 unfold V.take V.take0 V.val
 cases e1 : C.take 1 s with
 | mk x s1 =>
 rw [e1] at hx l8
 simp only at hx l8 ⊢
 by_cases k1 : x = 1
 ·subst k1
  simp only [if_pos]
  cases e2 : C.take 8 s1 with
  | mk x2 r =>
  obtain ⟨ls, f⟩ := r
  rw [e2] at l8
  simp only at l8 ⊢
  cases f with
  | true => simp only [true_or, if_true]; exact vtake_1_fail B0 g w s h hT s1 x2 ls e1 e2
  | false =>
   cases hf : V.formed ((1 : Nat) : Int) x2 [] with
   | false => simp only [Bool.false_eq_true, or_true, if_true]; exact vtake_1_bad B0 g w s h hT s1 x2 ls e1 e2 hf
   | true => simp only [Bool.false_eq_true, or_self, if_false, Bool.true_eq_false]; exact vtake_1_fine B0 g w s h hT s1 x2 ls e1 e2 hf
 ·by_cases k2 : x = 2
  ·subst k2
   simp only [if_neg k1, if_pos]
   cases e2 : C.text 40 s1 with
   | mk o r =>
   obtain ⟨ls, f⟩ := r
   simp only
   cases f with
   | true => simp only [true_or, if_true]; exact vtake_2_fail B0 g w s h hT s1 o ls e1 e2
   | false =>
    cases hf : V.formed ((2 : Nat) : Int) 0 o with
    | false => simp only [Bool.false_eq_true, or_true, if_true]; exact vtake_2_bad B0 g w s h hT s1 o ls e1 e2 hf
    | true => simp only [Bool.false_eq_true, or_self, if_false, Bool.true_eq_false]; exact vtake_2_fine B0 g w s h hT s1 o ls e1 e2 hf
  ·simp only [if_neg k1, if_neg k2]
   obtain ⟨ls, f⟩ := s1
   simp only
   cases f with
   | true => simp only [true_or, if_true]; exact vtake_o_fail B0 g w s h hT x ls e1 hx (by omega) (by omega)
   | false =>
    cases hf : V.formed (x : Int) 0 [] with
    | false => simp only [Bool.false_eq_true, or_true, if_true]; exact vtake_o_bad B0 g w s h hT x ls e1 hx (by omega) (by omega) hf
    | true => simp only [Bool.false_eq_true, or_self, if_false, Bool.true_eq_false]; exact vtake_o_fine B0 g w s h hT x ls e1 hx (by omega) (by omega) hf
end Go.Proofs.YtjofjpmhokjhnaaDoor

namespace Go.Proofs.YtjofjpmhokjhnaaDoor
set_option maxRecDepth 20001
open Go.RowKit T
set_option linter.unusedSimpArgs false
set_option linter.unusedVariables false
theorem some_app (k : Nat) (a r : List UInt8) (h : a.length = k) : C.some_ k (a ++ r, false) = (a, (r, false)) := by
 unfold C.some_
 rw [if_neg (by simp; omega)]
 simp [h]
theorem take_app (k : Nat) (x : Nat) (r : List UInt8) (h : k ≤ 8) : C.take (k : Int) (C.be x k ++ r, false) = (x % 256 ^ k, (r, false)) := by
 unfold C.take
 rw [if_neg (by omega), Int.toNat_natCast, some_app k _ _ (C.be_len x k), C.val_be]
theorem text_app (most : Int) (s : List UInt8) (r : List UInt8) (h : s.length < 65536) (hm : (s.length : Int) ≤ most) : C.text most (C.be s.length 2 ++ s ++ r, false) = (s, (r, false)) := by
 unfold C.text
 rw [List.append_assoc, show (2 : Int) = ((2 : Nat) : Int) from rfl, take_app 2 s.length (s ++ r) (by omega)]
 rw [show s.length % 256 ^ 2 = s.length from Nat.mod_eq_of_lt (by omega)]
 simp only [show decide (most < (s.length : Int)) = false from by simp; omega, Bool.or_false]
 exact some_app _ _ _ rfl
/-- by the number of bytes -/
theorem take1 (x : Nat) (h : x < 256) (r : List UInt8) : C.take 1 (C.be x 1 ++ r, false) = (x, (r, false)) := by
 have := take_app 1 x r (by omega)
 rw [Nat.mod_eq_of_lt (by simpa using h)] at this
 exact this
theorem take4 (x : Nat) (h : x < 4294967296) (r : List UInt8) : C.take 4 (C.be x 4 ++ r, false) = (x, (r, false)) := by
 have := take_app 4 x r (by omega)
 rw [Nat.mod_eq_of_lt (by simpa using h)] at this
 exact this
theorem take8 (x : Nat) (h : x < 18446744073709551616) (r : List UInt8) : C.take 8 (C.be x 8 ++ r, false) = (x, (r, false)) := by
 have := take_app 8 x r (by omega)
 rw [Nat.mod_eq_of_lt (by simpa using h)] at this
 exact this
theorem put1 (l : List UInt8) (x : Nat) : C.put l x 1 = l ++ C.be x 1 := rfl
theorem put4 (l : List UInt8) (x : Nat) : C.put l x 4 = l ++ C.be x 4 := rfl
theorem put8 (l : List UInt8) (x : Nat) : C.put l x 8 = l ++ C.be x 8 := rfl
theorem text_short (l t : List UInt8) (h : t.length < 65536) : C.putText l t = l ++ (C.be t.length 2 ++ t) := by
 unfold C.putText
 rw [show min t.length 65535 = t.length by omega, List.take_length, List.append_assoc]
namespace T
def idtake (s : C.St) : (Nat × Nat) × C.St :=
 bif (C.take 4 (C.take 1 s).2).2.2 || !idb ((C.take 1 s).1 : Int) ((C.take 4 (C.take 1 s).2).1 : Int) then ((0, 0), ((C.take 4 (C.take 1 s).2).2.1, true))
 else (((C.take 1 s).1, (C.take 4 (C.take 1 s).2).1), (C.take 4 (C.take 1 s).2).2)
def rtake (s : C.St) : Rd1 × C.St := (((C.text 12 s).1, (C.take 8 (C.text 12 s).2).1), (C.take 8 (C.text 12 s).2).2)
def wtake (s : C.St) : Wr1 × C.St := (((C.text 12 s).1, ((V.take (C.text 12 s).2).1.1 : Int), (V.take (C.text 12 s).2).1.2.1, (V.take (C.text 12 s).2).1.2.2), (V.take (C.text 12 s).2).2)
def many {α : Type} (f : C.St → α × C.St) : Nat → List α × C.St → List α × C.St
 | 0, a => a
 | n + 1, a => many f n (a.1 ++ [(f a.2).1], (f a.2).2)
/-- more than six: no transaction -/
def six {α : Type} (a : List α × C.St) : C.St := bif decide (6 < a.1.length) then (a.2.1, true) else a.2
def ttake0 (s : C.St) : ((Nat × Nat) × List Rd1 × List Wr1) × C.St :=
 let i := idtake s
 let n := C.take 1 i.2
 let R := many rtake (min n.1 7) ([], n.2)
 let m := C.take 1 (six R)
 let Ws := many wtake (min m.1 7) ([], m.2)
 ((i.1, R.1, Ws.1), Ws.2)
def ttake (s : C.St) : ((Nat × Nat) × List Rd1 × List Wr1) × C.St :=
 bif (ttake0 s).2.2 || !formed (ttake0 s).1.1.1 (ttake0 s).1.1.2 (ttake0 s).1.2.1 (ttake0 s).1.2.2 then (((0, 0), [], []), ((ttake0 s).2.1, true)) else ttake0 s
end T
theorem idback (s q : Nat) (h : idb (s : Int) (q : Int) = true) (r : List UInt8) : idtake (idput [] (s : Int) (q : Int) ++ r, false) = ((s, q), (r, false)) := by
 obtain ⟨a, b, h1, h2, h3, h4, h5, h6⟩ := idb_nat h
 have e1 : s = a := by omega
 have e2 : q = b := by omega
 subst e1; subst e2
 have e : idput [] (s : Int) (q : Int) = C.be s 1 ++ C.be q 4 := by unfold idput; rw [h]; rfl
 unfold idtake
 rw [e, List.append_assoc, take1 s (by omega)]
 simp only
 rw [take4 q (by omega), h]
 rfl
theorem idput_app (l : List UInt8) (s q : Int) : idput l s q = l ++ idput [] s q := by
 unfold idput
 cases idb s q with
 | false => simp
 | true => simp [put1, put4]
theorem rput_app (l : List UInt8) (x : Rd1) : rput l x = l ++ rput [] x := by unfold rput C.putText; simp [put8]
theorem V.put_app (l : List UInt8) (k : Int) (b : Nat) (t : List UInt8) : V.put l k b t = l ++ V.put [] k b t := by
 unfold V.put C.putText
 split
 ·split
  ·simp [put1, put8]
  ·split
   ·simp [put1]
   ·simp [put1]
 ·simp
theorem wput_app (l : List UInt8) (x : Wr1) : wput l x = l ++ wput [] x := by
 unfold wput
 rw [V.put_app, V.put_app (C.putText [] x.1)]
 unfold C.putText
 simp
theorem fold_app {α : Type} (f : List UInt8 → α → List UInt8) (hf : ∀ l x, f l x = l ++ f [] x) (xs : List α) (l : List UInt8) : xs.foldl f l = l ++ xs.foldl f [] := by
 induction xs generalizing l with
 | nil => simp
 | cons x xs ih => rw [List.foldl_cons, ih, List.foldl_cons, ih (f [] x), hf l x, List.append_assoc]
theorem many_app {α : Type} (f : C.St → α × C.St) (p : List UInt8 → α → List UInt8) (hp : ∀ l x, p l x = l ++ p [] x) (P : α → Prop) (hf : ∀ x r, P x → f (p [] x ++ r, false) = (x, (r, false))) :
  ∀ (xs : List α) (acc : List α) (r : List UInt8), (∀ x ∈ xs, P x) → many f xs.length (acc, (xs.foldl p [] ++ r, false)) = (acc ++ xs, (r, false))
 | [], acc, r, _ => by simp [many]
 | x :: xs, acc, r, h => by
  rw [List.foldl_cons, fold_app p hp, List.append_assoc]
  show many f xs.length (acc ++ [(f (p [] x ++ (xs.foldl p [] ++ r), false)).1], (f (p [] x ++ (xs.foldl p [] ++ r), false)).2) = _
  rw [hf x _ (h x (by simp))]
  rw [many_app f p hp P hf xs (acc ++ [x]) r (fun y hy => h y (by simp [hy]))]
  simp
/-- what a formed transaction's reads and writes are -/
theorem good_key {l : List (List UInt8)} (h : rises l = true) : ∀ x ∈ l, V.key x = true := by
 intro x hx
 obtain ⟨i, hi, rfl⟩ := List.getElem_of_mem hx
 have := (rises_iff l).1 h i hi
 unfold good at this
 rw [List.getElem?_eq_getElem hi, Bool.and_eq_true] at this
 exact this.1
theorem key_len {t : List UInt8} (h : V.key t = true) : t.length ≤ 12 := by
 unfold V.key at h
 simp at h
 omega
theorem rback (x : Rd1) (r : List UInt8) (h : x.1.length ≤ 12 ∧ x.2 < 18446744073709551616) : rtake (rput [] x ++ r, false) = (x, (r, false)) := by
 have e : rput [] x ++ r = C.be x.1.length 2 ++ x.1 ++ (C.be x.2 8 ++ r) := by unfold rput; rw [put8, text_short _ _ (by omega)]; simp
 unfold rtake
 rw [e, text_app 12 x.1 _ (by omega) (by omega)]
 simp only
 rw [take8 x.2 h.2]
theorem vback (k : Int) (b : Nat) (t : List UInt8) (r : List UInt8) (hb : b < 18446744073709551616) (h : V.formed k b t = true) : ((V.take (V.put [] k b t ++ r, false)).1.1 : Int) = k ∧ (V.take (V.put [] k b t ++ r, false)).1.2.1 = b ∧ (V.take (V.put [] k b t ++ r, false)).1.2.2 = t ∧ (V.take (V.put [] k b t ++ r, false)).2 = (r, false) := by
 have key : ∀ (k' : Nat) (u : (Nat × Nat × List UInt8) × C.St), (k' : Int) = k → V.take0 (V.put [] k b t ++ r, false) = ((k', b, t), (r, false)) → ((V.take (V.put [] k b t ++ r, false)).1.1 : Int) = k ∧ (V.take (V.put [] k b t ++ r, false)).1.2.1 = b ∧ (V.take (V.put [] k b t ++ r, false)).1.2.2 = t ∧ (V.take (V.put [] k b t ++ r, false)).2 = (r, false) := by
  intro k' u hk e
  have e2 : V.take (V.put [] k b t ++ r, false) = ((k', b, t), (r, false)) := by
   unfold V.take
   rw [e, if_neg (by simp; rw [hk, h])]
  rw [e2]
  exact ⟨hk, rfl, rfl, rfl⟩
 rcases formed_kind h with rfl | rfl | rfl
 ·have h0 : b = 0 ∧ t = [] := by unfold V.formed at h; simpa using h
  obtain ⟨rfl, rfl⟩ := h0
  refine key 0 default rfl ?_
  have e : V.put [] 0 0 [] = C.be 0 1 := by unfold V.put; rw [h]; rfl
  unfold V.take0
  rw [e, take1 0 (by omega)]
  rfl
 ·have h0 : t = [] := by unfold V.formed at h; simp at h; exact h.1
  subst h0
  refine key 1 default rfl ?_
  have e : V.put [] 1 b [] = C.be 1 1 ++ C.be b 8 := by unfold V.put; rw [h]; rfl
  unfold V.take0
  rw [e, List.append_assoc, take1 1 (by omega)]
  simp only
  rw [take8 b hb, if_pos trivial]
 ·have h0 : b = 0 ∧ t.length ≤ 40 := by unfold V.formed at h; simp at h; exact h.1
  obtain ⟨rfl, hl⟩ := h0
  refine key 2 default rfl ?_
  have e : V.put [] 2 0 t ++ r = C.be 2 1 ++ (C.be t.length 2 ++ t ++ r) := by unfold V.put; rw [h]; simp [text_short _ _ (show t.length < 65536 by omega), put1]
  unfold V.take0
  rw [e, take1 2 (by omega)]
  simp only
  rw [text_app 40 t r (by omega) (by omega), if_neg (by simp), if_pos trivial]
theorem wback (x : Wr1) (r : List UInt8) (h : x.1.length ≤ 12 ∧ x.2.2.1 < 18446744073709551616 ∧ V.formed x.2.1 x.2.2.1 x.2.2.2 = true) : wtake (wput [] x ++ r, false) = (x, (r, false)) := by
 have e : wput [] x ++ r = C.be x.1.length 2 ++ x.1 ++ (V.put [] x.2.1 x.2.2.1 x.2.2.2 ++ r) := by unfold wput; rw [V.put_app, text_short _ _ (by omega)]; simp
 obtain ⟨h1, h2, h3, h4⟩ := vback x.2.1 x.2.2.1 x.2.2.2 r h.2.1 h.2.2
 unfold wtake
 rw [e, text_app 12 x.1 _ (by omega) (by omega)]
 simp only
 rw [h1, h2, h3, h4]
theorem formed_all {s q : Int} {rs : List Rd1} {ws : List Wr1} (h : formed s q rs ws = true) : (∀ x ∈ rs, x.1.length ≤ 12) ∧ (∀ x ∈ ws, x.1.length ≤ 12 ∧ V.formed x.2.1 x.2.2.1 x.2.2.2 = true) := by
 unfold formed at h
 rw [Bool.and_eq_true, Bool.and_eq_true, Bool.and_eq_true] at h
 refine ⟨fun x hx => key_len (good_key h.1.1.2 _ (List.mem_map.2 ⟨x, hx, rfl⟩)), fun x hx => ⟨key_len (good_key h.1.2 _ (List.mem_map.2 ⟨x, hx, rfl⟩)), ?_⟩⟩
 exact List.all_eq_true.1 h.2 x hx
theorem tback (s q : Nat) (rs : List Rd1) (ws : List Wr1) (r : List UInt8) (h : formed (s : Int) (q : Int) rs ws = true) (ho : ∀ x ∈ rs, okR x) (hw : ∀ x ∈ ws, okW x) :
  ttake (tput [] (s : Int) (q : Int) rs ws ++ r, false) = (((s, q), rs, ws), (r, false)) := by
 obtain ⟨hi, h6, h7⟩ := formed_few h
 obtain ⟨hr, hws⟩ := formed_all h
 have e : tput [] (s : Int) (q : Int) rs ws ++ r = idput [] (s : Int) (q : Int) ++ (C.be rs.length 1 ++ (rs.foldl rput [] ++ (C.be ws.length 1 ++ (ws.foldl wput [] ++ r)))) := by
  unfold tput
  rw [h, cond_true, fold_app wput wput_app, put1, fold_app rput rput_app, put1]
  simp only [List.append_assoc]
 have m1 := many_app rtake rput rput_app (fun x => x.1.length ≤ 12 ∧ x.2 < 18446744073709551616) rback rs [] (C.be ws.length 1 ++ (ws.foldl wput [] ++ r)) (fun x hx => ⟨hr x hx, (ho x hx).2⟩)
 have m2 := many_app wtake wput wput_app (fun x => x.1.length ≤ 12 ∧ x.2.2.1 < 18446744073709551616 ∧ V.formed x.2.1 x.2.2.1 x.2.2.2 = true) wback ws [] r (fun x hx => ⟨(hws x hx).1, (hw x hx).2.1, (hws x hx).2⟩)
 have e0 : ttake0 (tput [] (s : Int) (q : Int) rs ws ++ r, false) = (((s, q), rs, ws), (r, false)) := by
  unfold ttake0
  rw [e]
  simp only [idback s q hi, take1 rs.length (by omega), show min rs.length 7 = rs.length by omega, m1]
  have : six (([] : List Rd1) ++ rs, (C.be ws.length 1 ++ (ws.foldl wput [] ++ r), false)) = (C.be ws.length 1 ++ (ws.foldl wput [] ++ r), false) := by
   unfold six
   rw [decide_eq_false (by simp; omega)]; rfl
  rw [this]
  simp only [take1 ws.length (by omega), show min ws.length 7 = ws.length by omega, m2, List.nil_append]
 unfold ttake
 rw [e0, h]
 rfl
end Go.Proofs.YtjofjpmhokjhnaaDoor

namespace Go.Proofs.YtjofjpmhokjhnaaDoor
set_option maxRecDepth 20001
open Go.RowKit T
set_option linter.unusedSimpArgs false
set_option linter.unusedVariables false
section
variable {w z : World} {B g k : Nat} {s : C.St} {old cs : Array Value} {t : TypeId}
theorem grownRow (z : World) (k : Nat) (cs : Array Value) : z.grownBy (z.setRow k cs) (some k) := ⟨rfl, rfl, rfl, by rw [setRow_size]; exact Nat.le_refl _, fun i _ hi => setRow_other z k i cs (fun e => hi (by rw [e]))⟩
theorem grownRowNew (h : w.grownBy z (some g)) (hk : w.heap.size ≤ k) (hz : z.heap[k]? = some (.cells old t (0, 0))) : w.grownBy (z.setRow k cs) (some g) :=
 ⟨h.os, h.tape, h.output, by rw [setRow_size]; exact h.size, fun i hi hne => (setRow_other z k i cs (by omega)).trans (h.block i hi hne)⟩
theorem RdrAt.row (h : RdrAt z B g s) (hk : k ≠ g) (hB : B ≤ k) : RdrAt (z.setRow k cs) B g s := h.other (grownRow z k cs) hk hB
theorem grownDrewS (h : w.grownBy z (some g)) : w.grownBy z.drew (some g) := ⟨h.os, h.tape, h.output, h.size, h.block⟩
theorem RdrAt.drewS (h : RdrAt z B g s) : RdrAt z.drew B g s := h
theorem RdrAt.lt (h : RdrAt z B g s) : g < z.heap.size ∧ B ≤ g := by
 obtain ⟨A, c, hb, _, _, _, _, hB⟩ := h
 exact ⟨ltAt hb, hB⟩
theorem ownSet1 {base e size n k : Nat} {z : World} {v : Value} {xs : List Value} (h : z.ownsRow base e size v n xs) (hne : v.ownBlock ≠ some k) (i : Nat) (u : Value) : (z.setCells k i [u]).ownsRow base e size v n xs := h.kept (grownSet z k i u) (Or.inr hne)
theorem ownNe {base e size n : Nat} {v : Value} {xs : List Value} (h : z.ownsRow base e size v n xs) (hg : g < base) : v.ownBlock = none ∨ v.ownBlock ≠ some g := by
 cases hb : v.ownBlock with
 | none => exact Or.inl rfl
 | some q => exact Or.inr (fun e => by have := (h.lt q hb).1; injection e with e; omega)
theorem ownRowK {base e size n : Nat} {v : Value} {xs : List Value} (h : z.ownsRow base e size v n xs) (hne : v.ownBlock ≠ some k) : (z.setRow k cs).ownsRow base e size v n xs := by
 refine h.kept (grownRow z k cs) ?_
 exact Or.inr hne
theorem take_bound (k : Nat) (s : C.St) (hk : k ≤ 8) : (C.take (k : Int) s).1 < 256 ^ k := take_lt k s hk
end
theorem wrapI {n : Nat} (h : n < 9223372036854775808) : IntKind.i64.wrap (n : Int) = (n : Int) := by rw [IntKind.wrap_i64]; omega
theorem many_succ {α : Type} (f : C.St → α × C.St) : ∀ (k : Nat) (a : List α × C.St), many f (k + 1) a = ((many f k a).1 ++ [(f (many f k a).2).1], (f (many f k a).2).2)
 | 0, a => rfl
 | k + 1, a => by
  show many f (k + 1) (a.1 ++ [(f a.2).1], (f a.2).2) = _
  rw [many_succ f k]
  rfl
/-- the number of elements of the slice in a cell -/
def sliceLen (w : World) (p : Addr) : Nat := match w.cell? p with | some (.slice _ n _) => n | _ => 0
theorem sliceLen_of {w : World} {p : Addr} {A : Option Addr} {n c : Nat} (h : w.cell? p = some (.slice A n c)) : sliceLen w p = n := by unfold sliceLen; rw [h]
theorem flat_at {α : Type} {enc : α → List Value} {sz : Nat} (hs : ∀ x, (enc x).length = sz) (l : List α) (i : Nat) (a : α) (h : l[i]? = some a) (j : Nat) (v : Value) (hv : (enc a)[j]? = some v) : (l.flatMap enc)[i * sz + j]? = some v := by
 induction l generalizing i with
 | nil => simp at h
 | cons x l ih =>
  have hj : j < sz := by have := (List.getElem?_eq_some_iff.1 hv).1; rwa [hs] at this
  rw [List.flatMap_cons]
  cases i with
  | zero =>
   simp at h; subst h
   rw [Nat.zero_mul, Nat.zero_add, List.getElem?_append_left (by rw [hs]; exact hj)]
   exact hv
  | succ i =>
   rw [List.getElem?_append_right (by rw [hs, Nat.add_mul]; omega), hs, show (i + 1) * sz + j - sz = i * sz + j by rw [Nat.add_mul]; omega]
   exact ih i (by simpa using h)
theorem rowsOwn {α : Type} {enc : α → List Value} {sz : Nat} (hs : ∀ x, (enc x).length = sz) {w : World} {base e n : Nat} {v : Value} {l : List α} (h : w.ownsRow base e sz v n (l.flatMap enc)) (hn : n = l.length) :
  ∃ (A : Option Addr) (c : Nat), v = .slice A l.length c ∧ l.length ≤ c ∧ c ≤ maxLen ∧ RowsAt w w.heap.size A sz (l.map enc) := by
 subst hn
 obtain ⟨A0, c0, hv0, hc0, _, hm0⟩ := ownShape h
 rcases h.2 with ⟨hv, h0⟩ | ⟨g, cap, cur, hv, _, hg, hle, _⟩
 ·refine ⟨A0, c0, hv0, hc0, hm0, fun i cs hi => ?_⟩
  have := (List.getElem?_eq_some_iff.1 hi).1
  rw [List.length_map] at this; omega
 ·rw [hv] at hv0
  injection hv0 with e1 e2 e3
  subst e1; subst e3
  subst hv
  refine ⟨_, cap, rfl, hle, hm0, fun i cs hi => ?_⟩
  rw [List.getElem?_map] at hi
  obtain ⟨a, ha, rfl⟩ := Option.map_eq_some_iff.1 hi
  refine ⟨g, 0, rfl, (Array.getElem?_eq_some_iff.1 hg).1, fun j v hv => ?_⟩
  have c1 := h.cells (g := g) rfl _ _ (flat_at hs l i a ha j v hv)
  rw [Addr.add_lit] at c1
  simpa [Nat.add_assoc] using c1
theorem TabsAt.drewS {B : Nat} {z : World} (h : TabsAt B z) : TabsAt B z.drew := by obtain ⟨W0, h0, hs, hb⟩ := h; exact ⟨W0, h0, hs, belowDrewS hb⟩
theorem TabsAt.row {B k : Nat} {z : World} {cs : Array Value} (h : TabsAt B z) (hB : B ≤ k) : TabsAt B (z.setRow k cs) := h.grown (grownRow z k cs) hB
theorem TabsAt.set1 {B k : Nat} {z : World} (h : TabsAt B z) (hB : B ≤ k) (i : Nat) (u : Value) : TabsAt B (z.setCells k i [u]) := h.grown (grownSet z k i u) hB
theorem RdrAt.set1 {B g k : Nat} {z : World} {s : C.St} (h : RdrAt z B g s) (hk : k ≠ g) (hB : B ≤ k) (i : Nat) (u : Value) : RdrAt (z.setCells k i [u]) B g s := h.setNew hk hB i u
theorem grownSet1 {w z : World} {g k : Nat} (h : w.grownBy z (some g)) (hk : w.heap.size ≤ k) (i : Nat) (u : Value) : w.grownBy (z.setCells k i [u]) (some g) := grownSetNew h hk i u
theorem rowAdd {w : World} {g : Nat} {cs : List Value} {t : TypeId} (h : w.heap[g]? = some (.cells cs.toArray t (0, 0))) : ∀ j v, cs[j]? = some v → w.cell? ((⟨g, 0, none⟩ : Addr).add j) = some v := fun j v hv => by
 rw [Addr.add_mid]; exact rowAt h j v hv
theorem encR_mem (r : Rd1) : ∀ u ∈ encR r, u.oneCell' = true := fun u hu => (Array.all_eq_true_iff_forall_mem.1 (encR_one r)) u (by simpa using hu)
theorem encW_mem (r : Wr1) : ∀ u ∈ encW r, u.oneCell' = true := fun u hu => (Array.all_eq_true_iff_forall_mem.1 (encW_one r)) u (by simpa using hu)
theorem fillR (x : Rd1) (cells : Array Value) (hn : cells.size = 2) : Instr.fill (fun i => some (i * 2, 2)) cells [(0, .agg (encR x).toArray)] = some (encR x).toArray := by
 have := Great.fill_whole (s := 2) (by omega) [Value.agg (encR x).toArray] cells (by intro v hv; simp at hv; subst hv; rfl) (by simp [hn])
 simpa [Value.cells] using this
theorem fillW (x : Wr1) (cells : Array Value) (hn : cells.size = 4) : Instr.fill (fun i => some (i * 4, 4)) cells [(0, .agg (encW x).toArray)] = some (encW x).toArray := by
 have := Great.fill_whole (s := 4) (by omega) [Value.agg (encW x).toArray] cells (by intro v hv; simp at hv; subst hv; rfl) (by simp [hn])
 simpa [Value.cells] using this
theorem info_rd : (Tryd.prog.info? 147).map (fun i => (i.zero, i.size, i.bytes)) = some (some (.agg #[.string ⟨#[]⟩, .int .u64 0]), 2, 24) := by kernel_rfl
theorem info_wr : (Tryd.prog.info? 140).map (fun i => (i.zero, i.size, i.bytes)) = some (some (.agg #[.string ⟨#[]⟩, .int .i64 0, .int .u64 0, .string ⟨#[]⟩]), 4, 48) := by kernel_rfl
theorem text_len (most : Int) (s : C.St) : (C.text most s).1.length ≤ 65535 := by
 have h := take_bound 2 s (by omega)
 unfold C.text
 generalize C.take 2 s = r at h
 unfold C.some_
 split
 ·simp
 ·have h2 : r.1 < 65536 := h
  simp only [List.length_take]; omega
theorem okR_snoc {rs : List Rd1} {t : List UInt8} {v : Nat} (h : ∀ x ∈ rs, okR x) (ht : t.length ≤ 65535) (hv : v < 18446744073709551616) : ∀ x ∈ rs ++ [(t, v)], okR x := fun x hx => by
 rcases List.mem_append.1 hx with hx | hx
 ·exact h x hx
 ·rw [List.mem_singleton] at hx; subst hx; exact ⟨by show t.length ≤ _; omega, hv⟩
theorem rowsOwnK {α : Type} {enc : α → List Value} {sz : Nat} (hs : ∀ x, (enc x).length = sz) {w : World} {base e n c : Nat} {A : Option Addr} {l : List α} (h : w.ownsRow base e sz (.slice A n c) n (l.flatMap enc)) (hn : n = l.length) :
  l.length ≤ c ∧ c ≤ maxLen ∧ RowsAt w w.heap.size A sz (l.map enc) := by
 obtain ⟨A', c', h1, h2, h3, h4⟩ := rowsOwn hs h hn
 injection h1 with e1 e2 e3
 subst e1; subst e3
 exact ⟨h2, h3, h4⟩
theorem txOwn {w : World} {base n1 c1 n2 c2 : Nat} {A1 A2 : Option Addr} {rs : List Rd1} {ws : List Wr1} (hu : w.ownsRow base 147 2 (.slice A1 n1 c1) n1 (rs.flatMap encR)) (hv : w.ownsRow base 140 4 (.slice A2 n2 c2) n2 (ws.flatMap encW))
  (h1 : rs.length = n1) (h2 : ws.length = n2) (ho : ∀ x ∈ rs, okR x) (hw : ∀ x ∈ ws, okW x) : TxOk w w.heap.size rs ws A1 c1 A2 c2 := by
 obtain ⟨a1, a2, a3⟩ := rowsOwnK (enc := encR) (sz := 2) (fun _ => rfl) hu h1.symm
 obtain ⟨b1, b2, b3⟩ := rowsOwnK (enc := encW) (sz := 4) (fun _ => rfl) hv h2.symm
 exact ⟨a3, b3, a1, b1, a2, b2, ho, hw⟩
theorem vtake_ok (s : C.St) : (V.take s).1.2.1 < 18446744073709551616 ∧ (V.take s).1.2.2.length ≤ 65535 := by
 have h8 : ∀ t, (C.take 8 t).1 < 18446744073709551616 := fun t => take_bound 8 t (by omega)
 unfold V.take
 split
 ·exact ⟨by show 0 < _; omega, by show 0 ≤ _; omega⟩
 ·unfold V.take0
  split
  ·exact ⟨h8 _, by show 0 ≤ _; omega⟩
  ·split
   ·exact ⟨by show 0 < _; omega, text_len _ _⟩
   ·exact ⟨by show 0 < _; omega, by show 0 ≤ _; omega⟩
theorem okW_snoc {rs : List Wr1} {t : List UInt8} {k : Int} {v : Nat} {u : List UInt8} (h : ∀ x ∈ rs, okW x) (ht : t.length ≤ 65535) (hv : v < 18446744073709551616) (hu : u.length ≤ 65535) : ∀ x ∈ rs ++ [(t, k, v, u)], okW x := fun x hx => by
 rcases List.mem_append.1 hx with hx | hx
 ·exact h x hx
 ·rw [List.mem_singleton] at hx; subst hx; exact ⟨by show t.length ≤ _; omega, hv, by show u.length ≤ _; omega⟩
/-- what lies in blocks that were made since, as long as these are kept -/
theorem ownFresh {w z : World} {base e size n : Nat} {v : Value} {xs : List Value} (h : w.ownsRow base e size v n xs) (hk : ∀ i, base ≤ i → i < w.heap.size → z.heap[i]? = w.heap[i]?) : z.ownsRow base e size v n xs := by
 rcases h.2 with h0 | ⟨g, cap, cur, hv, hb', hg, rest⟩
 ·exact ⟨h.1, Or.inl h0⟩
 ·exact ⟨h.1, Or.inr ⟨g, cap, cur, hv, hb', (hk g hb' (ltAt hg)).trans hg, rest⟩⟩
theorem RdrAt.setN {B g k : Nat} {s : C.St} (hk : k ≠ g) (hB : B ≤ k) : ∀ (vs : List Value) (i : Nat) (z : World), RdrAt z B g s → RdrAt (z.setCells k i vs) B g s
 | [], _, _, h => h
 | v :: r, i, z, h => RdrAt.setN hk hB r (i + 1) (z.setCell ⟨k, i, none⟩ v) (h.setNew hk hB i v)
theorem grownSetN {w : World} {g k : Nat} (hk : w.heap.size ≤ k) : ∀ (vs : List Value) (i : Nat) (z : World), w.grownBy z (some g) → w.grownBy (z.setCells k i vs) (some g)
 | [], _, _, h => h
 | v :: r, i, z, h => grownSetN hk r (i + 1) (z.setCell ⟨k, i, none⟩ v) (grownSetNew h hk i v)
theorem TabsAt.setN {B k : Nat} (hB : B ≤ k) : ∀ (vs : List Value) (i : Nat) (z : World), TabsAt B z → TabsAt B (z.setCells k i vs)
 | [], _, _, h => h
 | v :: r, i, z, h => TabsAt.setN hB r (i + 1) (z.setCell ⟨k, i, none⟩ v) (h.grown (grownSet z k i v) hB)
/-- steps that turn an owned row alone -/
theorem ownKind {w : World} {base e sz n k : Nat} {v : Value} {xs : List Value} {cs : Array Value} {t : TypeId} {m : Nat × Nat} (hu : w.ownsRow base e sz v n xs) (hz : w.heap[k]? = some (.cells cs t m)) (hne : t ≠ e) : v.ownBlock ≠ some k := by
 intro hb
 rcases hu.2 with ⟨hv, _⟩ | ⟨g, cap, cur, hv, _, hg, _⟩
 ·rw [hv] at hb; cases hb
 ·rw [hv] at hb
  have e1 : g = k := by injection hb
  subst e1
  rw [hz] at hg
  injection hg with hg
  injection hg with _ ht _
  exact hne ht
section
variable {w z z' : World} {B g k base e sz n : Nat} {v : Value} {xs : List Value} {s : C.St}
theorem heapOwn {cs : Array Value} {t : TypeId} {m : Nat × Nat} (h : z.heap[k]? = some (.cells cs t m)) (hu : z.ownsRow base e sz v n xs) (hne : t ≠ e) (hg : z.grownBy z' v.ownBlock) : z'.heap[k]? = some (.cells cs t m) :=
 (hg.block k (ltAt h) (fun e1 => ownKind hu h hne e1.symm)).trans h
theorem ownLow {i : Nat} (hu : z.ownsRow base e sz v n xs) (hi : i < base) : some i ≠ v.ownBlock := fun h => by have := (hu.lt i h.symm).1; omega
theorem grownOwn (h : w.grownBy z (some g)) (hu : z.ownsRow w.heap.size e sz v n xs) (hg : z.grownBy z' v.ownBlock) : w.grownBy z' (some g) :=
 ⟨hg.os.trans h.os, hg.tape.trans h.tape, hg.output.trans h.output, Nat.le_trans h.size hg.size, fun i hi hne => (hg.block i (Nat.lt_of_lt_of_le hi h.size) (ownLow hu hi)).trans (h.block i hi hne)⟩
theorem RdrAt.own (h : RdrAt z B g s) (hu : z.ownsRow base e sz v n xs) (hg : z.grownBy z' v.ownBlock) (hb : g < base) : RdrAt z' B g s := by
 obtain ⟨A, c, hb0, h1, h2, h3, hr, h4⟩ := h
 refine ⟨A, c, (hg.block g (ltAt hb0) (ownLow hu hb)).trans hb0, h1, h2, h3, fun j u hj => ?_, h4⟩
 obtain ⟨b, off, hA, hlt, hc⟩ := hr j u hj
 exact ⟨b, off, hA, hlt, (World.cell?_of_block (hg.block b (World.block_lt_of_cell? z _ hc) (ownLow hu (by omega)))).trans hc⟩
theorem TabsAt.own (h : TabsAt B z) (hu : z.ownsRow base e sz v n xs) (hg : z.grownBy z' v.ownBlock) (hb : B ≤ base) : TabsAt B z' := by
 obtain ⟨W0, h0, hs, hb0⟩ := h
 exact ⟨W0, h0, hs, ⟨hg.os.trans hb0.os, hg.tape.trans hb0.tape, hg.output.trans hb0.output, Nat.le_trans hb0.size hg.size, fun i hi => (hg.block i (by have := hb0.size; omega) (ownLow hu (by omega))).trans (hb0.block i hi)⟩⟩
end
end Go.Proofs.YtjofjpmhokjhnaaDoor

namespace Go.Proofs.YtjofjpmhokjhnaaDoor
set_option maxRecDepth 20001
open Go.RowKit T
set_option linter.unusedSimpArgs false
set_option linter.unusedVariables false

set_option maxHeartbeats 3200000 in
theorem takeid_any (B g : Nat) (w : World) (s : C.St) (h : RdrAt w B g s) :
  Calls Tryd.prog 92 #[.pointer (some ⟨g, 0, none⟩)] w fun e w' => e = .returned (.agg [.int .i64 ((idtake s).1.1 : Int), .int .i64 ((idtake s).1.2 : Int)].toArray) ∧ RdrAt w' B g (idtake s).2 ∧ w.grownBy w' (some g) := by
 have hx := take_bound 1 s (by omega)
 have hy := take_bound 4 (C.take 1 s).2 (by omega)
 have HU : Hid (idtake s = bif (C.take 4 (C.take 1 s).2).2.2 || !idb ((C.take 1 s).1 : Int) ((C.take 4 (C.take 1 s).2).1 : Int) then ((0, 0), ((C.take 4 (C.take 1 s).2).2.1, true))
  else (((C.take 1 s).1, (C.take 4 (C.take 1 s).2).1), (C.take 4 (C.take 1 s).2).2)) := rfl
 obtain ⟨R, hR⟩ : ∃ R, R = idtake s := ⟨_, rfl⟩
 rw [← hR] at HU ⊢
 clear hR
 have T1 := Lib.hid (fun z (hz : RdrAt z B g s) => take_any B g 1 s z hz)
 have e1 : C.take 1 s = ((C.take 1 s).1, (C.take 1 s).2) := rfl
 generalize C.take 1 s = r1 at hx hy HU T1
 obtain ⟨x, s1⟩ := r1
 simp only at hx hy HU T1
 have T2 := Lib.hid (fun z (hz : RdrAt z B g s1) => take_any B g 4 s1 z hz)
 generalize C.take 4 s1 = r2 at hy HU T2
 obtain ⟨y, ls, f⟩ := r2
 simp only at hy HU T2
 clear e1
 have kx : IntKind.i64.wrap (x : Int) = (x : Int) := wrapI (by omega)
 have ky : IntKind.i64.wrap (y : Int) = (y : Int) := wrapI (by omega)
 have hx := show x < 256 from hx
 have HI := Lib.hid (fun z => tid_any (x : Int) (y : Int) z)
 generalize idb (x : Int) (y : Int) = b at HI HU
 have hg : g < w.heap.size := h.lt.1
 have hBg : B ≤ g := h.lt.2
 have ee : w.grownBy w (some g) := ⟨rfl, rfl, rfl, Nat.le_refl _, fun _ _ _ => rfl⟩
 have rr := h
 clear h
 have ee := grownAllocR ee (.cells #[.int .i64 0, .int .i64 0] 26)
 have rr := RdrAt.alloc rr (.cells #[.int .i64 0, .int .i64 0] 26)
 have Zr := hpN w (.cells #[.int .i64 0, .int .i64 0] 26) rfl
 go_enter Tryd.func92, Tryd.ntmps92
 go_upto_region 1 with fail
 generalize w.alloc (.cells #[.int .i64 0, .int .i64 0] 26) = w0 at Zr ee rr ⊢
 refine wp_region_lit ?_
 go_wp2_with fail
 refine (T1.out w0 rr).mono ?_
 rintro e z1 ⟨rfl, rr, t⟩
 have Zr := heapG Zr t (by omega)
 have ee := grownTrans ee t
 clear t
 go_wp2_with fail
 refine (T2.out z1 rr).mono ?_
 rintro e z2 ⟨rfl, rr, t⟩
 have Zr := heapG Zr t (by omega)
 have ee := grownTrans ee t
 clear t
 clear T1 T2
 dsimp only
 rename_i hK
 refine hK _ _ ?_
 clear hK
 iterate 3 go_step
 iterate 6 go_step
 have lZr := (Array.getElem?_eq_some_iff.1 Zr).1
 have sz2 := ee.size
 have Zr := hpA Zr (.cells #[.int .i64 0, .int .i64 0] 26)
 have ee := grownAllocR ee (.cells #[.int .i64 0, .int .i64 0] 26)
 have rr := RdrAt.alloc rr (.cells #[.int .i64 0, .int .i64 0] 26)
 have Zt := hpN z2 (.cells #[.int .i64 0, .int .i64 0] 26) rfl
 generalize z2.alloc (.cells #[.int .i64 0, .int .i64 0] 26) = z3 at Zr Zt ee rr ⊢
 iterate 27 (first | with_reducible refine isStore (ty := 26) rfl ?_ | go_step)
 refine wpList_store_row rfl 26 _ _ rfl (z2.heap.size) ([.int .i64 (x : Int), .int .i64 (y : Int)]).toArray rfl rfl 26 _ Zt sizeId (by rfl) (by simp [Value.oneCell']) ?_
 have N_ := setRow_heap z3 (z2.heap.size) _ ([.int .i64 (x : Int), .int .i64 (y : Int)]).toArray _ _ Zt
 have ee := grownRowNew (cs := ([.int .i64 (x : Int), .int .i64 (y : Int)]).toArray) ee (show w.heap.size ≤ z2.heap.size by omega) Zt
 have rr := RdrAt.row (cs := ([.int .i64 (x : Int), .int .i64 (y : Int)]).toArray) rr (show z2.heap.size ≠ g by omega) (by omega)
 have Zr := hpR Zr (g' := z2.heap.size) (by omega) ([.int .i64 (x : Int), .int .i64 (y : Int)]).toArray
 clear Zt
 have Zt := N_
 clear N_
 generalize z3.setRow (z2.heap.size) ([.int .i64 (x : Int), .int .i64 (y : Int)]).toArray = z4 at Zr Zt ee rr ⊢
 clear kx ky
 go_wp2_with fail
 refine (ok_any B g (ls, f) z4 rr).mono ?_
 rintro e z5 ⟨rfl, hw_⟩
 rw [← hw_]
 clear hw_ z5
 dsimp only
 rename_i hK
 refine hK _ _ ?_
 clear hK
 cases f with
 | true =>
  have HR : Hid (R = ((0, 0), (ls, true))) := HU.out
  clear HU
  have HR2 : Hid (R = ((0, 0), (ls, true))) := HR.out
  clear HR HI
  go_wp2_with fail
  refine (take_any B g 9 (ls, true) z4 rr).mono ?_
  rintro e z6 ⟨rfl, rr, t⟩
  have Zr := heapG Zr t (by omega)
  have Zt := heapG Zt t (by omega)
  have ee := grownTrans ee t
  clear t
  rw [take9] at rr
  go_upto_region 4 with fail
  refine wp_region_lit ?_
  iterate 27 (first | with_reducible refine isStore (ty := 26) rfl ?_ | go_step)
  refine wpList_store_row rfl 26 _ _ rfl (w.heap.size) ([.int .i64 0, .int .i64 0]).toArray rfl rfl 26 _ Zr sizeId (by rfl) (by simp [Value.oneCell']) ?_
  have N_ := setRow_heap z6 (w.heap.size) _ ([.int .i64 0, .int .i64 0]).toArray _ _ Zr
  have ee := grownRowNew (cs := ([.int .i64 0, .int .i64 0]).toArray) ee (show w.heap.size ≤ w.heap.size by omega) Zr
  have rr := RdrAt.row (cs := ([.int .i64 0, .int .i64 0]).toArray) rr (show w.heap.size ≠ g by omega) (by omega)
  have Zt := hpR Zt (g' := w.heap.size) (by omega) ([.int .i64 0, .int .i64 0]).toArray
  clear Zr
  have Zr := N_
  clear N_
  generalize z6.setRow (w.heap.size) ([.int .i64 0, .int .i64 0]).toArray = z7 at Zr Zt ee rr ⊢
  go_wp2_with fail
  refine bodyPost_ret (v := .agg [.int .i64 0, .int .i64 0].toArray) (results_cell_row rfl _ _ (w.heap.size) 26 _ (0, 0) _ rfl Zr Tryd.underlying26 rfl sizeId) rfl ⟨by rw [HR2.out]; rfl, by rw [HR2.out]; exact rr, ee⟩
 | false =>
  iterate 27 (first | with_reducible refine isLoad (ty := 26) rfl ?_ | go_step)
  refine wpList_load_g (by rfl) 26 _ rfl (z2.heap.size) 0 rfl (([.int .i64 (x : Int), .int .i64 (y : Int)])) _ (rowAt Zt) Tryd.underlying26 rfl sizeId ?_
  go_wp2_with fail
  refine (HI.out z4).mono ?_
  rintro e z6 ⟨rfl, t⟩
  have Zr := hpB Zr t
  have Zt := hpB Zt t
  have ee := grownBelow ee t
  have rr := RdrAt.below rr t
  clear t
  cases b with
  | false =>
   have HR : Hid (R = ((0, 0), (ls, true))) := HU.out
   clear HU
   have HR2 : Hid (R = ((0, 0), (ls, true))) := HR.out
   clear HR HI
   go_wp2_with fail
   refine (take_any B g 9 (ls, false) z6 rr).mono ?_
   rintro e z7 ⟨rfl, rr, t⟩
   have Zr := heapG Zr t (by omega)
   have Zt := heapG Zt t (by omega)
   have ee := grownTrans ee t
   clear t
   rw [take9] at rr
   go_upto_region 4 with fail
   refine wp_region_lit ?_
   iterate 27 (first | with_reducible refine isStore (ty := 26) rfl ?_ | go_step)
   refine wpList_store_row rfl 26 _ _ rfl (w.heap.size) ([.int .i64 0, .int .i64 0]).toArray rfl rfl 26 _ Zr sizeId (by rfl) (by simp [Value.oneCell']) ?_
   have N_ := setRow_heap z7 (w.heap.size) _ ([.int .i64 0, .int .i64 0]).toArray _ _ Zr
   have ee := grownRowNew (cs := ([.int .i64 0, .int .i64 0]).toArray) ee (show w.heap.size ≤ w.heap.size by omega) Zr
   have rr := RdrAt.row (cs := ([.int .i64 0, .int .i64 0]).toArray) rr (show w.heap.size ≠ g by omega) (by omega)
   have Zt := hpR Zt (g' := w.heap.size) (by omega) ([.int .i64 0, .int .i64 0]).toArray
   clear Zr
   have Zr := N_
   clear N_
   generalize z7.setRow (w.heap.size) ([.int .i64 0, .int .i64 0]).toArray = z8 at Zr Zt ee rr ⊢
   go_wp2_with fail
   refine bodyPost_ret (v := .agg [.int .i64 0, .int .i64 0].toArray) (results_cell_row rfl _ _ (w.heap.size) 26 _ (0, 0) _ rfl Zr Tryd.underlying26 rfl sizeId) rfl ⟨by rw [HR2.out]; rfl, by rw [HR2.out]; exact rr, ee⟩
  | true =>
   have HR : Hid (R = ((x, y), (ls, false))) := HU.out
   clear HU HI
   go_upto_region 5 with fail
   refine wp_region_lit ?_
   iterate 27 (first | with_reducible refine isLoad (ty := 26) rfl ?_ | go_step)
   refine wpList_load_mid rfl 26 _ rfl (z2.heap.size) 0 rfl (([.int .i64 (x : Int), .int .i64 (y : Int)])) _ (rowAt Zt) Tryd.underlying26 rfl sizeId ?_
   iterate 27 (first | with_reducible refine isStore (ty := 26) rfl ?_ | go_step)
   refine wpList_store_row rfl 26 _ _ rfl (w.heap.size) ([.int .i64 (x : Int), .int .i64 (y : Int)]).toArray rfl rfl 26 _ Zr sizeId (by rfl) (by simp [Value.oneCell']) ?_
   have N_ := setRow_heap z6 (w.heap.size) _ ([.int .i64 (x : Int), .int .i64 (y : Int)]).toArray _ _ Zr
   have ee := grownRowNew (cs := ([.int .i64 (x : Int), .int .i64 (y : Int)]).toArray) ee (show w.heap.size ≤ w.heap.size by omega) Zr
   have rr := RdrAt.row (cs := ([.int .i64 (x : Int), .int .i64 (y : Int)]).toArray) rr (show w.heap.size ≠ g by omega) (by omega)
   have Zt := hpR Zt (g' := w.heap.size) (by omega) ([.int .i64 (x : Int), .int .i64 (y : Int)]).toArray
   clear Zr
   have Zr := N_
   clear N_
   generalize z6.setRow (w.heap.size) ([.int .i64 (x : Int), .int .i64 (y : Int)]).toArray = z7 at Zr Zt ee rr ⊢
   go_wp2_with fail
   refine bodyPost_ret (v := .agg [.int .i64 (x : Int), .int .i64 (y : Int)].toArray) (results_cell_row rfl _ _ (w.heap.size) 26 _ (0, 0) _ rfl Zr Tryd.underlying26 rfl sizeId) rfl ⟨by rw [HR.out], by rw [HR.out]; exact rr, ee⟩
end Go.Proofs.YtjofjpmhokjhnaaDoor
