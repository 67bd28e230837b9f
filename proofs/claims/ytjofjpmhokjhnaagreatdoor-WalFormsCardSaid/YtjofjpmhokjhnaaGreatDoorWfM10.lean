import Derived.Test.YtjofjpmhokjhnaaGreatDoorWfM2
import Derived.Test.YtjofjpmhokjhnaaGreatDoorWfM7
set_option linter.unusedSimpArgs false
set_option linter.unusedVariables false
namespace Go.Proofs.YtjofjpmhokjhnaaGreatDoor
set_option maxRecDepth 20000
open Go.RowKit
def TabsAt (B : Nat) (w : World) : Prop := ∃ W0, Tabs W0 ∧ W0.heap.size ≤ B ∧ Below W0.heap.size W0 w
section
variable {B : Nat} {w w' : World}
theorem TabsAt.of (h : Tabs w) (hB : w.heap.size ≤ B) : TabsAt B w := ⟨w, h, hB, Below.refl _ _⟩
theorem TabsAt.tabs (h : TabsAt B w) : Tabs w := by obtain ⟨W0, h0, _, hb⟩ := h; exact h0.below hb
theorem TabsAt.below {B' : Nat} (h : TabsAt B w) (hb : Below B' w w') (hB : B ≤ B') : TabsAt B w' := by obtain ⟨W0, h0, hs, hb0⟩ := h; exact ⟨W0, h0, hs, hb0.trans (hb.mono (by omega))⟩
theorem TabsAt.belowS (h : TabsAt B w) (hb : Below w.heap.size w w') : TabsAt B w' := by obtain ⟨W0, h0, hs, hb0⟩ := h; exact ⟨W0, h0, hs, hb0.trans (hb.mono hb0.size)⟩
theorem TabsAt.alloc (h : TabsAt B w) (o : Obj) : TabsAt B (w.alloc o) := h.belowS ((Below.refl _ _).alloc (Nat.le_refl _) _)
theorem TabsAt.grown {g : Nat} (h : TabsAt B w) (hg : w.grownBy w' (some g)) (hB : B ≤ g) : TabsAt B w' := by
 obtain ⟨W0, h0, hs, hb0⟩ := h
 exact ⟨W0, h0, hs, hb0.grown hg hb0.size (fun q hq => by injection hq with hq; omega)⟩
end
def V.take0 (s : C.St) : (Nat × Nat × List UInt8) × C.St :=
 if (C.take 1 s).1 = 1 then ((1, (C.take 8 (C.take 1 s).2).1, []), (C.take 8 (C.take 1 s).2).2)
 else if (C.take 1 s).1 = 2 then ((2, 0, (C.text 40 (C.take 1 s).2).1), (C.text 40 (C.take 1 s).2).2)
 else (((C.take 1 s).1, 0, []), (C.take 1 s).2)
def V.take (s : C.St) : (Nat × Nat × List UInt8) × C.St :=
 if (V.take0 s).2.2 = true ∨ V.formed (V.take0 s).1.1 (V.take0 s).1.2.1 (V.take0 s).1.2.2 = false then ((0, 0, []), ((V.take0 s).2.1, true)) else V.take0 s
set_option maxHeartbeats 1600000 in
theorem vtake_o_fail (B0 g : Nat) (w : World) (s : C.St) (h : RdrAt w B0 g s) (hT : TabsAt B0 w) (x : Nat) (ls : List UInt8) (e1 : C.take 1 s = (x, (ls, true))) (hx : x < 256) (hn1 : ¬ (x : Int) = 1) (hn2 : ¬ (x : Int) = 2) :
 Calls Tryz.prog 72 #[.pointer (some ⟨g, 0, none⟩)] w fun e w' => e = .returned (.agg #[.int .i64 (0), .int .u64 (0), .string (⟨#[]⟩)]) ∧ RdrAt w' B0 g (ls, true) ∧ w.grownBy w' (some g) := by
 have hlt : g < w.heap.size := by obtain ⟨_, _, hb, _⟩ := h; exact ltAt hb
 have hBg : B0 ≤ g := by obtain ⟨_, _, _, _, _, _, _, hB⟩ := h; exact hB
 have T1 := take_any B0 g 1 s _ (h.alloc (.cells #[.int .i64 0, .int .u64 0, .string ⟨#[]⟩] 77))
 rw [e1] at T1
 have hT := hT.alloc (.cells #[.int .i64 0, .int .u64 0, .string ⟨#[]⟩] 77)
 have hTB := hT
 go_enter Tryz.func72, Tryz.ntmps72
 go_wp2_with fail
 refine T1.mono ?_
 rintro e w1 ⟨rfl, h1, g1⟩
 have hB : B0 ≤ w.heap.size := by omega
 have hne : w.heap.size ≠ g := by omega
 have Z1 := heapG (heap_alloc_new w _) g1 hne
 have G1 := grownTrans (World.grownBy_alloc w _ (some g)) g1
 have hT := hT.grown g1 hBg
 have hs1 : w.heap.size + 1 ≤ w1.heap.size := by have a := g1.size; simp at a; omega
 clear g1 T1 h hTB
 go_wp2_with fail
 have hz := h1.alloc (.cells #[.int .i64 (x : Int), .int .u64 0, .string ⟨#[]⟩] 77)
 have Z := heapA Z1 (.cells #[.int .i64 (x : Int), .int .u64 0, .string ⟨#[]⟩] 77)
 have G := grownAllocR G1 (.cells #[.int .i64 (x : Int), .int .u64 0, .string ⟨#[]⟩] 77)
 have hT := hT.alloc (.cells #[.int .i64 (x : Int), .int .u64 0, .string ⟨#[]⟩] 77)
 have V := heap_alloc_new w1 (.cells #[.int .i64 (x : Int), .int .u64 0, .string ⟨#[]⟩] 77)
 obtain ⟨q, hq⟩ : ∃ q, q = w1.heap.size := ⟨_, rfl⟩
 rw [← hq] at V ⊢
 have hqr : w.heap.size < q := by omega
 have hqg : q ≠ g := by have := G1.size; omega
 clear hq
 generalize w1.alloc (.cells #[.int .i64 (x : Int), .int .u64 0, .string ⟨#[]⟩] 77) = wz at hz Z G hT V ⊢
 clear h1 Z1 G1 hs1
 refine (ok_any B0 g _ _ hz).mono ?_
 rintro e w9 ⟨rfl, hw9⟩
 rw [← hw9]
 clear hw9
 go_wp2_with fail
 refine (take_any B0 g 9 _ _ hz).mono ?_
 rw [take9]
 rintro e w4 ⟨rfl, h4, g4⟩
 have Z4 := heapG Z g4 hne
 have G4 := grownTrans G g4
 have a0 := cellAt Z4 0
 have a1 := cellAt Z4 1
 have a2 := cellAt Z4 2
 have c0 := freeAt Z4 0
 have c1 := freeAt Z4 1
 have c2 := freeAt Z4 2
 have ZZ := setAt (setAt (setAt Z4 0 (.int .i64 0)) 1 (.int .u64 0)) 2 (.string ⟨#[]⟩)
 have r0 := cellAt ZZ 0
 have r1 := cellAt ZZ 1
 have r2 := cellAt ZZ 2
 simp only [zQ] at a0 a1 a2
 simp at r0 r1 r2
 go_wp2_with fail
 refine bodyPost_ret (v := .agg #[.int .i64 0, .int .u64 0, .string ⟨#[]⟩]) (by simp [results, Tryz.results72, go_sem, r0, r1, r2]) rfl ⟨rfl, ((h4.setNew hne hB _ _).setNew hne hB _ _).setNew hne hB _ _, grownSetNew (grownSetNew (grownSetNew G4 (Nat.le_refl _) _ _) (Nat.le_refl _) _ _) (Nat.le_refl _) _ _⟩
set_option maxHeartbeats 1600000 in
theorem vtake_o_bad (B0 g : Nat) (w : World) (s : C.St) (h : RdrAt w B0 g s) (hT : TabsAt B0 w) (x : Nat) (ls : List UInt8) (e1 : C.take 1 s = (x, (ls, false))) (hx : x < 256) (hn1 : ¬ (x : Int) = 1) (hn2 : ¬ (x : Int) = 2) (hf : V.formed (x : Int) 0 (⟨#[]⟩ : ByteArray).data.toList = false) :
 Calls Tryz.prog 72 #[.pointer (some ⟨g, 0, none⟩)] w fun e w' => e = .returned (.agg #[.int .i64 (0), .int .u64 (0), .string (⟨#[]⟩)]) ∧ RdrAt w' B0 g (ls, true) ∧ w.grownBy w' (some g) := by
 have HF := Lib.hid (fun z (hz : Tabs z) => formed_any (x : Int) 0 (⟨#[]⟩ : ByteArray) z hz)
 rw [hf] at HF
 unfold V.val at HF
 clear hf
 have hlt : g < w.heap.size := by obtain ⟨_, _, hb, _⟩ := h; exact ltAt hb
 have hBg : B0 ≤ g := by obtain ⟨_, _, _, _, _, _, _, hB⟩ := h; exact hB
 have T1 := take_any B0 g 1 s _ (h.alloc (.cells #[.int .i64 0, .int .u64 0, .string ⟨#[]⟩] 77))
 rw [e1] at T1
 have hT := hT.alloc (.cells #[.int .i64 0, .int .u64 0, .string ⟨#[]⟩] 77)
 have hTB := hT
 go_enter Tryz.func72, Tryz.ntmps72
 go_wp2_with fail
 refine T1.mono ?_
 rintro e w1 ⟨rfl, h1, g1⟩
 have hB : B0 ≤ w.heap.size := by omega
 have hne : w.heap.size ≠ g := by omega
 have Z1 := heapG (heap_alloc_new w _) g1 hne
 have G1 := grownTrans (World.grownBy_alloc w _ (some g)) g1
 have hT := hT.grown g1 hBg
 have hs1 : w.heap.size + 1 ≤ w1.heap.size := by have a := g1.size; simp at a; omega
 clear g1 T1 h hTB
 go_wp2_with fail
 have hz := h1.alloc (.cells #[.int .i64 (x : Int), .int .u64 0, .string ⟨#[]⟩] 77)
 have Z := heapA Z1 (.cells #[.int .i64 (x : Int), .int .u64 0, .string ⟨#[]⟩] 77)
 have G := grownAllocR G1 (.cells #[.int .i64 (x : Int), .int .u64 0, .string ⟨#[]⟩] 77)
 have hT := hT.alloc (.cells #[.int .i64 (x : Int), .int .u64 0, .string ⟨#[]⟩] 77)
 have V := heap_alloc_new w1 (.cells #[.int .i64 (x : Int), .int .u64 0, .string ⟨#[]⟩] 77)
 obtain ⟨q, hq⟩ : ∃ q, q = w1.heap.size := ⟨_, rfl⟩
 rw [← hq] at V ⊢
 have hqr : w.heap.size < q := by omega
 have hqg : q ≠ g := by have := G1.size; omega
 clear hq
 generalize w1.alloc (.cells #[.int .i64 (x : Int), .int .u64 0, .string ⟨#[]⟩] 77) = wz at hz Z G hT V ⊢
 clear h1 Z1 G1 hs1
 refine (ok_any B0 g _ _ hz).mono ?_
 rintro e w9 ⟨rfl, hw9⟩
 rw [← hw9]
 clear hw9
 have p0 := cellAt V 0
 have p1 := cellAt V 1
 have p2 := cellAt V 2
 simp only [zQ] at p0 p1 p2
 go_wp2_with fail
 refine (HF.out _ hT.tabs).mono ?_
 rintro e w5 ⟨rfl, b5⟩
 have h5 := hz.below b5
 have Z5 := heapB Z b5
 have G5 := grownBelow G b5
 go_wp2_with fail
 refine (take_any B0 g 9 _ _ h5).mono ?_
 rw [take9]
 rintro e w4 ⟨rfl, h4, g4⟩
 have Z4 := heapG Z5 g4 hne
 have G4 := grownTrans G5 g4
 have a0 := cellAt Z4 0
 have a1 := cellAt Z4 1
 have a2 := cellAt Z4 2
 have c0 := freeAt Z4 0
 have c1 := freeAt Z4 1
 have c2 := freeAt Z4 2
 have ZZ := setAt (setAt (setAt Z4 0 (.int .i64 0)) 1 (.int .u64 0)) 2 (.string ⟨#[]⟩)
 have r0 := cellAt ZZ 0
 have r1 := cellAt ZZ 1
 have r2 := cellAt ZZ 2
 simp only [zQ] at a0 a1 a2
 simp at r0 r1 r2
 go_wp2_with fail
 refine bodyPost_ret (v := .agg #[.int .i64 0, .int .u64 0, .string ⟨#[]⟩]) (by simp [results, Tryz.results72, go_sem, r0, r1, r2]) rfl ⟨rfl, ((h4.setNew hne hB _ _).setNew hne hB _ _).setNew hne hB _ _, grownSetNew (grownSetNew (grownSetNew G4 (Nat.le_refl _) _ _) (Nat.le_refl _) _ _) (Nat.le_refl _) _ _⟩
set_option maxHeartbeats 1600000 in
theorem vtake_o_fine (B0 g : Nat) (w : World) (s : C.St) (h : RdrAt w B0 g s) (hT : TabsAt B0 w) (x : Nat) (ls : List UInt8) (e1 : C.take 1 s = (x, (ls, false))) (hx : x < 256) (hn1 : ¬ (x : Int) = 1) (hn2 : ¬ (x : Int) = 2) (hf : V.formed (x : Int) 0 (⟨#[]⟩ : ByteArray).data.toList = true) :
 Calls Tryz.prog 72 #[.pointer (some ⟨g, 0, none⟩)] w fun e w' => e = .returned (.agg #[.int .i64 ((x : Int)), .int .u64 (0), .string (⟨#[]⟩)]) ∧ RdrAt w' B0 g (ls, false) ∧ w.grownBy w' (some g) := by
 have HF := Lib.hid (fun z (hz : Tabs z) => formed_any (x : Int) 0 (⟨#[]⟩ : ByteArray) z hz)
 rw [hf] at HF
 unfold V.val at HF
 clear hf
 have hlt : g < w.heap.size := by obtain ⟨_, _, hb, _⟩ := h; exact ltAt hb
 have hBg : B0 ≤ g := by obtain ⟨_, _, _, _, _, _, _, hB⟩ := h; exact hB
 have T1 := take_any B0 g 1 s _ (h.alloc (.cells #[.int .i64 0, .int .u64 0, .string ⟨#[]⟩] 77))
 rw [e1] at T1
 have hT := hT.alloc (.cells #[.int .i64 0, .int .u64 0, .string ⟨#[]⟩] 77)
 have hTB := hT
 go_enter Tryz.func72, Tryz.ntmps72
 go_wp2_with fail
 refine T1.mono ?_
 rintro e w1 ⟨rfl, h1, g1⟩
 have hB : B0 ≤ w.heap.size := by omega
 have hne : w.heap.size ≠ g := by omega
 have Z1 := heapG (heap_alloc_new w _) g1 hne
 have G1 := grownTrans (World.grownBy_alloc w _ (some g)) g1
 have hT := hT.grown g1 hBg
 have hs1 : w.heap.size + 1 ≤ w1.heap.size := by have a := g1.size; simp at a; omega
 clear g1 T1 h hTB
 go_wp2_with fail
 have hz := h1.alloc (.cells #[.int .i64 (x : Int), .int .u64 0, .string ⟨#[]⟩] 77)
 have Z := heapA Z1 (.cells #[.int .i64 (x : Int), .int .u64 0, .string ⟨#[]⟩] 77)
 have G := grownAllocR G1 (.cells #[.int .i64 (x : Int), .int .u64 0, .string ⟨#[]⟩] 77)
 have hT := hT.alloc (.cells #[.int .i64 (x : Int), .int .u64 0, .string ⟨#[]⟩] 77)
 have V := heap_alloc_new w1 (.cells #[.int .i64 (x : Int), .int .u64 0, .string ⟨#[]⟩] 77)
 obtain ⟨q, hq⟩ : ∃ q, q = w1.heap.size := ⟨_, rfl⟩
 rw [← hq] at V ⊢
 have hqr : w.heap.size < q := by omega
 have hqg : q ≠ g := by have := G1.size; omega
 clear hq
 generalize w1.alloc (.cells #[.int .i64 (x : Int), .int .u64 0, .string ⟨#[]⟩] 77) = wz at hz Z G hT V ⊢
 clear h1 Z1 G1 hs1
 refine (ok_any B0 g _ _ hz).mono ?_
 rintro e w9 ⟨rfl, hw9⟩
 rw [← hw9]
 clear hw9
 have p0 := cellAt V 0
 have p1 := cellAt V 1
 have p2 := cellAt V 2
 simp only [zQ] at p0 p1 p2
 go_wp2_with fail
 refine (HF.out _ hT.tabs).mono ?_
 rintro e w5 ⟨rfl, b5⟩
 have h4 := hz.below b5
 have Z4 := heapB Z b5
 have G4 := grownBelow G b5
 have p0 := cellB b5 p0
 have p1 := cellB b5 p1
 have p2 := cellB b5 p2
 have a0 := cellAt Z4 0
 have a1 := cellAt Z4 1
 have a2 := cellAt Z4 2
 have c0 := freeAt Z4 0
 have c1 := freeAt Z4 1
 have c2 := freeAt Z4 2
 have ZZ := setAt (setAt (setAt Z4 0 (.int .i64 (x : Int))) 1 (.int .u64 0)) 2 (.string ⟨#[]⟩)
 have r0 := cellAt ZZ 0
 have r1 := cellAt ZZ 1
 have r2 := cellAt ZZ 2
 simp only [zQ] at a0 a1 a2
 simp at r0 r1 r2
 go_wp2_with fail
 refine bodyPost_ret (v := .agg #[.int .i64 (x : Int), .int .u64 0, .string ⟨#[]⟩]) (by simp [results, Tryz.results72, go_sem, r0, r1, r2]) rfl ⟨rfl, ((h4.setNew hne hB _ _).setNew hne hB _ _).setNew hne hB _ _, grownSetNew (grownSetNew (grownSetNew G4 (Nat.le_refl _) _ _) (Nat.le_refl _) _ _) (Nat.le_refl _) _ _⟩
set_option maxHeartbeats 1600000 in
theorem vtake_1_fail (B0 g : Nat) (w : World) (s : C.St) (h : RdrAt w B0 g s) (hT : TabsAt B0 w) (s1 : C.St) (x2 : Nat) (ls : List UInt8) (e1 : C.take 1 s = (1, s1)) (e2 : C.take 8 s1 = (x2, (ls, true))) :
 Calls Tryz.prog 72 #[.pointer (some ⟨g, 0, none⟩)] w fun e w' => e = .returned (.agg #[.int .i64 (0), .int .u64 (0), .string (⟨#[]⟩)]) ∧ RdrAt w' B0 g (ls, true) ∧ w.grownBy w' (some g) := by
 have hlt : g < w.heap.size := by obtain ⟨_, _, hb, _⟩ := h; exact ltAt hb
 have hBg : B0 ≤ g := by obtain ⟨_, _, _, _, _, _, _, hB⟩ := h; exact hB
 have T1 := take_any B0 g 1 s _ (h.alloc (.cells #[.int .i64 0, .int .u64 0, .string ⟨#[]⟩] 77))
 rw [e1] at T1
 have hT := hT.alloc (.cells #[.int .i64 0, .int .u64 0, .string ⟨#[]⟩] 77)
 have hTB := hT
 go_enter Tryz.func72, Tryz.ntmps72
 go_wp2_with fail
 refine T1.mono ?_
 rintro e w1 ⟨rfl, h1, g1⟩
 have hB : B0 ≤ w.heap.size := by omega
 have hne : w.heap.size ≠ g := by omega
 have Z1 := heapG (heap_alloc_new w _) g1 hne
 have G1 := grownTrans (World.grownBy_alloc w _ (some g)) g1
 have hT := hT.grown g1 hBg
 have hs1 : w.heap.size + 1 ≤ w1.heap.size := by have a := g1.size; simp at a; omega
 clear g1 T1 h hTB
 go_wp2_with fail
 have h2 := h1.alloc (.cells #[.int .i64 1, .int .u64 0, .string ⟨#[]⟩] 77)
 have Z2 := heapA Z1 (.cells #[.int .i64 1, .int .u64 0, .string ⟨#[]⟩] 77)
 have G2 := grownAllocR G1 (.cells #[.int .i64 1, .int .u64 0, .string ⟨#[]⟩] 77)
 have hT := hT.alloc (.cells #[.int .i64 1, .int .u64 0, .string ⟨#[]⟩] 77)
 have V2 := heap_alloc_new w1 (.cells #[.int .i64 1, .int .u64 0, .string ⟨#[]⟩] 77)
 obtain ⟨q, hq⟩ : ∃ q, q = w1.heap.size := ⟨_, rfl⟩
 rw [← hq] at V2 ⊢
 have hqr : w.heap.size < q := by omega
 have hqg : q ≠ g := by have := G1.size; omega
 clear hq
 generalize w1.alloc (.cells #[.int .i64 1, .int .u64 0, .string ⟨#[]⟩] 77) = w2 at h2 Z2 G2 hT V2 ⊢
 clear h1 Z1 G1 hs1
 refine (take_any B0 g 8 _ _ h2).mono ?_
 rw [e2]
 rintro e w3 ⟨rfl, h3, g3⟩
 have Z3 := heapG Z2 g3 hne
 have V3 := heapG V2 g3 hqg
 have G3 := grownTrans G2 g3
 have hT := hT.grown g3 hBg
 clear g3 h2 Z2 G2 V2
 have v0 := cellAt V3 0
 have v1 := cellAt V3 1
 have v2 := cellAt V3 2
 have f0 := freeAt V3 0
 have f1 := freeAt V3 1
 have f2 := freeAt V3 2
 simp only [zQ] at v0 v1 v2
 have hz := h3.setNew hqg (by omega) 1 (.int .u64 (x2 : Int))
 have Z := heapS Z3 (p := ⟨q, 1, none⟩) (by simp; omega) (.int .u64 (x2 : Int))
 have V := setAt V3 1 (.int .u64 (x2 : Int))
 have G := grownSetNew G3 (Nat.le_of_lt hqr) 1 (.int .u64 (x2 : Int))
 have hT := hT.grown (grownSet w3 q 1 (.int .u64 (x2 : Int))) (by omega)
 simp at V
 go_wp2_with fail
 generalize w3.setCell ⟨q, 1, none⟩ (.int .u64 (x2 : Int)) = wz at hz Z G hT V ⊢
 clear h3 Z3 G3 V3 v0 v1 v2 f0 f1 f2
 refine (ok_any B0 g _ _ hz).mono ?_
 rintro e w9 ⟨rfl, hw9⟩
 rw [← hw9]
 clear hw9
 go_wp2_with fail
 refine (take_any B0 g 9 _ _ hz).mono ?_
 rw [take9]
 rintro e w4 ⟨rfl, h4, g4⟩
 have Z4 := heapG Z g4 hne
 have G4 := grownTrans G g4
 have a0 := cellAt Z4 0
 have a1 := cellAt Z4 1
 have a2 := cellAt Z4 2
 have c0 := freeAt Z4 0
 have c1 := freeAt Z4 1
 have c2 := freeAt Z4 2
 have ZZ := setAt (setAt (setAt Z4 0 (.int .i64 0)) 1 (.int .u64 0)) 2 (.string ⟨#[]⟩)
 have r0 := cellAt ZZ 0
 have r1 := cellAt ZZ 1
 have r2 := cellAt ZZ 2
 simp only [zQ] at a0 a1 a2
 simp at r0 r1 r2
 go_wp2_with fail
 refine bodyPost_ret (v := .agg #[.int .i64 0, .int .u64 0, .string ⟨#[]⟩]) (by simp [results, Tryz.results72, go_sem, r0, r1, r2]) rfl ⟨rfl, ((h4.setNew hne hB _ _).setNew hne hB _ _).setNew hne hB _ _, grownSetNew (grownSetNew (grownSetNew G4 (Nat.le_refl _) _ _) (Nat.le_refl _) _ _) (Nat.le_refl _) _ _⟩
set_option maxHeartbeats 1600000 in
theorem vtake_1_bad (B0 g : Nat) (w : World) (s : C.St) (h : RdrAt w B0 g s) (hT : TabsAt B0 w) (s1 : C.St) (x2 : Nat) (ls : List UInt8) (e1 : C.take 1 s = (1, s1)) (e2 : C.take 8 s1 = (x2, (ls, false))) (hf : V.formed 1 x2 (⟨#[]⟩ : ByteArray).data.toList = false) :
 Calls Tryz.prog 72 #[.pointer (some ⟨g, 0, none⟩)] w fun e w' => e = .returned (.agg #[.int .i64 (0), .int .u64 (0), .string (⟨#[]⟩)]) ∧ RdrAt w' B0 g (ls, true) ∧ w.grownBy w' (some g) := by
 have HF := Lib.hid (fun z (hz : Tabs z) => formed_any 1 x2 (⟨#[]⟩ : ByteArray) z hz)
 rw [hf] at HF
 unfold V.val at HF
 clear hf
 have hlt : g < w.heap.size := by obtain ⟨_, _, hb, _⟩ := h; exact ltAt hb
 have hBg : B0 ≤ g := by obtain ⟨_, _, _, _, _, _, _, hB⟩ := h; exact hB
 have T1 := take_any B0 g 1 s _ (h.alloc (.cells #[.int .i64 0, .int .u64 0, .string ⟨#[]⟩] 77))
 rw [e1] at T1
 have hT := hT.alloc (.cells #[.int .i64 0, .int .u64 0, .string ⟨#[]⟩] 77)
 have hTB := hT
 go_enter Tryz.func72, Tryz.ntmps72
 go_wp2_with fail
 refine T1.mono ?_
 rintro e w1 ⟨rfl, h1, g1⟩
 have hB : B0 ≤ w.heap.size := by omega
 have hne : w.heap.size ≠ g := by omega
 have Z1 := heapG (heap_alloc_new w _) g1 hne
 have G1 := grownTrans (World.grownBy_alloc w _ (some g)) g1
 have hT := hT.grown g1 hBg
 have hs1 : w.heap.size + 1 ≤ w1.heap.size := by have a := g1.size; simp at a; omega
 clear g1 T1 h hTB
 go_wp2_with fail
 have h2 := h1.alloc (.cells #[.int .i64 1, .int .u64 0, .string ⟨#[]⟩] 77)
 have Z2 := heapA Z1 (.cells #[.int .i64 1, .int .u64 0, .string ⟨#[]⟩] 77)
 have G2 := grownAllocR G1 (.cells #[.int .i64 1, .int .u64 0, .string ⟨#[]⟩] 77)
 have hT := hT.alloc (.cells #[.int .i64 1, .int .u64 0, .string ⟨#[]⟩] 77)
 have V2 := heap_alloc_new w1 (.cells #[.int .i64 1, .int .u64 0, .string ⟨#[]⟩] 77)
 obtain ⟨q, hq⟩ : ∃ q, q = w1.heap.size := ⟨_, rfl⟩
 rw [← hq] at V2 ⊢
 have hqr : w.heap.size < q := by omega
 have hqg : q ≠ g := by have := G1.size; omega
 clear hq
 generalize w1.alloc (.cells #[.int .i64 1, .int .u64 0, .string ⟨#[]⟩] 77) = w2 at h2 Z2 G2 hT V2 ⊢
 clear h1 Z1 G1 hs1
 refine (take_any B0 g 8 _ _ h2).mono ?_
 rw [e2]
 rintro e w3 ⟨rfl, h3, g3⟩
 have Z3 := heapG Z2 g3 hne
 have V3 := heapG V2 g3 hqg
 have G3 := grownTrans G2 g3
 have hT := hT.grown g3 hBg
 clear g3 h2 Z2 G2 V2
 have v0 := cellAt V3 0
 have v1 := cellAt V3 1
 have v2 := cellAt V3 2
 have f0 := freeAt V3 0
 have f1 := freeAt V3 1
 have f2 := freeAt V3 2
 simp only [zQ] at v0 v1 v2
 have hz := h3.setNew hqg (by omega) 1 (.int .u64 (x2 : Int))
 have Z := heapS Z3 (p := ⟨q, 1, none⟩) (by simp; omega) (.int .u64 (x2 : Int))
 have V := setAt V3 1 (.int .u64 (x2 : Int))
 have G := grownSetNew G3 (Nat.le_of_lt hqr) 1 (.int .u64 (x2 : Int))
 have hT := hT.grown (grownSet w3 q 1 (.int .u64 (x2 : Int))) (by omega)
 simp at V
 go_wp2_with fail
 generalize w3.setCell ⟨q, 1, none⟩ (.int .u64 (x2 : Int)) = wz at hz Z G hT V ⊢
 clear h3 Z3 G3 V3 v0 v1 v2 f0 f1 f2
 refine (ok_any B0 g _ _ hz).mono ?_
 rintro e w9 ⟨rfl, hw9⟩
 rw [← hw9]
 clear hw9
 have p0 := cellAt V 0
 have p1 := cellAt V 1
 have p2 := cellAt V 2
 simp only [zQ] at p0 p1 p2
 go_wp2_with fail
 refine (HF.out _ hT.tabs).mono ?_
 rintro e w5 ⟨rfl, b5⟩
 have h5 := hz.below b5
 have Z5 := heapB Z b5
 have G5 := grownBelow G b5
 go_wp2_with fail
 refine (take_any B0 g 9 _ _ h5).mono ?_
 rw [take9]
 rintro e w4 ⟨rfl, h4, g4⟩
 have Z4 := heapG Z5 g4 hne
 have G4 := grownTrans G5 g4
 have a0 := cellAt Z4 0
 have a1 := cellAt Z4 1
 have a2 := cellAt Z4 2
 have c0 := freeAt Z4 0
 have c1 := freeAt Z4 1
 have c2 := freeAt Z4 2
 have ZZ := setAt (setAt (setAt Z4 0 (.int .i64 0)) 1 (.int .u64 0)) 2 (.string ⟨#[]⟩)
 have r0 := cellAt ZZ 0
 have r1 := cellAt ZZ 1
 have r2 := cellAt ZZ 2
 simp only [zQ] at a0 a1 a2
 simp at r0 r1 r2
 go_wp2_with fail
 refine bodyPost_ret (v := .agg #[.int .i64 0, .int .u64 0, .string ⟨#[]⟩]) (by simp [results, Tryz.results72, go_sem, r0, r1, r2]) rfl ⟨rfl, ((h4.setNew hne hB _ _).setNew hne hB _ _).setNew hne hB _ _, grownSetNew (grownSetNew (grownSetNew G4 (Nat.le_refl _) _ _) (Nat.le_refl _) _ _) (Nat.le_refl _) _ _⟩
set_option maxHeartbeats 1600000 in
theorem vtake_1_fine (B0 g : Nat) (w : World) (s : C.St) (h : RdrAt w B0 g s) (hT : TabsAt B0 w) (s1 : C.St) (x2 : Nat) (ls : List UInt8) (e1 : C.take 1 s = (1, s1)) (e2 : C.take 8 s1 = (x2, (ls, false))) (hf : V.formed 1 x2 (⟨#[]⟩ : ByteArray).data.toList = true) :
 Calls Tryz.prog 72 #[.pointer (some ⟨g, 0, none⟩)] w fun e w' => e = .returned (.agg #[.int .i64 (1), .int .u64 ((x2 : Int)), .string (⟨#[]⟩)]) ∧ RdrAt w' B0 g (ls, false) ∧ w.grownBy w' (some g) := by
 have HF := Lib.hid (fun z (hz : Tabs z) => formed_any 1 x2 (⟨#[]⟩ : ByteArray) z hz)
 rw [hf] at HF
 unfold V.val at HF
 clear hf
 have hlt : g < w.heap.size := by obtain ⟨_, _, hb, _⟩ := h; exact ltAt hb
 have hBg : B0 ≤ g := by obtain ⟨_, _, _, _, _, _, _, hB⟩ := h; exact hB
 have T1 := take_any B0 g 1 s _ (h.alloc (.cells #[.int .i64 0, .int .u64 0, .string ⟨#[]⟩] 77))
 rw [e1] at T1
 have hT := hT.alloc (.cells #[.int .i64 0, .int .u64 0, .string ⟨#[]⟩] 77)
 have hTB := hT
 go_enter Tryz.func72, Tryz.ntmps72
 go_wp2_with fail
 refine T1.mono ?_
 rintro e w1 ⟨rfl, h1, g1⟩
 have hB : B0 ≤ w.heap.size := by omega
 have hne : w.heap.size ≠ g := by omega
 have Z1 := heapG (heap_alloc_new w _) g1 hne
 have G1 := grownTrans (World.grownBy_alloc w _ (some g)) g1
 have hT := hT.grown g1 hBg
 have hs1 : w.heap.size + 1 ≤ w1.heap.size := by have a := g1.size; simp at a; omega
 clear g1 T1 h hTB
 go_wp2_with fail
 have h2 := h1.alloc (.cells #[.int .i64 1, .int .u64 0, .string ⟨#[]⟩] 77)
 have Z2 := heapA Z1 (.cells #[.int .i64 1, .int .u64 0, .string ⟨#[]⟩] 77)
 have G2 := grownAllocR G1 (.cells #[.int .i64 1, .int .u64 0, .string ⟨#[]⟩] 77)
 have hT := hT.alloc (.cells #[.int .i64 1, .int .u64 0, .string ⟨#[]⟩] 77)
 have V2 := heap_alloc_new w1 (.cells #[.int .i64 1, .int .u64 0, .string ⟨#[]⟩] 77)
 obtain ⟨q, hq⟩ : ∃ q, q = w1.heap.size := ⟨_, rfl⟩
 rw [← hq] at V2 ⊢
 have hqr : w.heap.size < q := by omega
 have hqg : q ≠ g := by have := G1.size; omega
 clear hq
 generalize w1.alloc (.cells #[.int .i64 1, .int .u64 0, .string ⟨#[]⟩] 77) = w2 at h2 Z2 G2 hT V2 ⊢
 clear h1 Z1 G1 hs1
 refine (take_any B0 g 8 _ _ h2).mono ?_
 rw [e2]
 rintro e w3 ⟨rfl, h3, g3⟩
 have Z3 := heapG Z2 g3 hne
 have V3 := heapG V2 g3 hqg
 have G3 := grownTrans G2 g3
 have hT := hT.grown g3 hBg
 clear g3 h2 Z2 G2 V2
 have v0 := cellAt V3 0
 have v1 := cellAt V3 1
 have v2 := cellAt V3 2
 have f0 := freeAt V3 0
 have f1 := freeAt V3 1
 have f2 := freeAt V3 2
 simp only [zQ] at v0 v1 v2
 have hz := h3.setNew hqg (by omega) 1 (.int .u64 (x2 : Int))
 have Z := heapS Z3 (p := ⟨q, 1, none⟩) (by simp; omega) (.int .u64 (x2 : Int))
 have V := setAt V3 1 (.int .u64 (x2 : Int))
 have G := grownSetNew G3 (Nat.le_of_lt hqr) 1 (.int .u64 (x2 : Int))
 have hT := hT.grown (grownSet w3 q 1 (.int .u64 (x2 : Int))) (by omega)
 simp at V
 go_wp2_with fail
 generalize w3.setCell ⟨q, 1, none⟩ (.int .u64 (x2 : Int)) = wz at hz Z G hT V ⊢
 clear h3 Z3 G3 V3 v0 v1 v2 f0 f1 f2
 refine (ok_any B0 g _ _ hz).mono ?_
 rintro e w9 ⟨rfl, hw9⟩
 rw [← hw9]
 clear hw9
 have p0 := cellAt V 0
 have p1 := cellAt V 1
 have p2 := cellAt V 2
 simp only [zQ] at p0 p1 p2
 go_wp2_with fail
 refine (HF.out _ hT.tabs).mono ?_
 rintro e w5 ⟨rfl, b5⟩
 have h4 := hz.below b5
 have Z4 := heapB Z b5
 have G4 := grownBelow G b5
 have p0 := cellB b5 p0
 have p1 := cellB b5 p1
 have p2 := cellB b5 p2
 have a0 := cellAt Z4 0
 have a1 := cellAt Z4 1
 have a2 := cellAt Z4 2
 have c0 := freeAt Z4 0
 have c1 := freeAt Z4 1
 have c2 := freeAt Z4 2
 have ZZ := setAt (setAt (setAt Z4 0 (.int .i64 1)) 1 (.int .u64 (x2 : Int))) 2 (.string ⟨#[]⟩)
 have r0 := cellAt ZZ 0
 have r1 := cellAt ZZ 1
 have r2 := cellAt ZZ 2
 simp only [zQ] at a0 a1 a2
 simp at r0 r1 r2
 go_wp2_with fail
 refine bodyPost_ret (v := .agg #[.int .i64 1, .int .u64 (x2 : Int), .string ⟨#[]⟩]) (by simp [results, Tryz.results72, go_sem, r0, r1, r2]) rfl ⟨rfl, ((h4.setNew hne hB _ _).setNew hne hB _ _).setNew hne hB _ _, grownSetNew (grownSetNew (grownSetNew G4 (Nat.le_refl _) _ _) (Nat.le_refl _) _ _) (Nat.le_refl _) _ _⟩
set_option maxHeartbeats 1600000 in
theorem vtake_2_fail (B0 g : Nat) (w : World) (s : C.St) (h : RdrAt w B0 g s) (hT : TabsAt B0 w) (s1 : C.St) (o : List UInt8) (ls : List UInt8) (e1 : C.take 1 s = (2, s1)) (e2 : C.text 40 s1 = (o, (ls, true))) :
 Calls Tryz.prog 72 #[.pointer (some ⟨g, 0, none⟩)] w fun e w' => e = .returned (.agg #[.int .i64 (0), .int .u64 (0), .string (⟨#[]⟩)]) ∧ RdrAt w' B0 g (ls, true) ∧ w.grownBy w' (some g) := by
 have hlt : g < w.heap.size := by obtain ⟨_, _, hb, _⟩ := h; exact ltAt hb
 have hBg : B0 ≤ g := by obtain ⟨_, _, _, _, _, _, _, hB⟩ := h; exact hB
 have T1 := take_any B0 g 1 s _ (h.alloc (.cells #[.int .i64 0, .int .u64 0, .string ⟨#[]⟩] 77))
 rw [e1] at T1
 have hT := hT.alloc (.cells #[.int .i64 0, .int .u64 0, .string ⟨#[]⟩] 77)
 have hTB := hT
 go_enter Tryz.func72, Tryz.ntmps72
 go_wp2_with fail
 refine T1.mono ?_
 rintro e w1 ⟨rfl, h1, g1⟩
 have hB : B0 ≤ w.heap.size := by omega
 have hne : w.heap.size ≠ g := by omega
 have Z1 := heapG (heap_alloc_new w _) g1 hne
 have G1 := grownTrans (World.grownBy_alloc w _ (some g)) g1
 have hT := hT.grown g1 hBg
 have hs1 : w.heap.size + 1 ≤ w1.heap.size := by have a := g1.size; simp at a; omega
 clear g1 T1 h hTB
 go_wp2_with fail
 have h2 := h1.alloc (.cells #[.int .i64 2, .int .u64 0, .string ⟨#[]⟩] 77)
 have Z2 := heapA Z1 (.cells #[.int .i64 2, .int .u64 0, .string ⟨#[]⟩] 77)
 have G2 := grownAllocR G1 (.cells #[.int .i64 2, .int .u64 0, .string ⟨#[]⟩] 77)
 have hT := hT.alloc (.cells #[.int .i64 2, .int .u64 0, .string ⟨#[]⟩] 77)
 have V2 := heap_alloc_new w1 (.cells #[.int .i64 2, .int .u64 0, .string ⟨#[]⟩] 77)
 obtain ⟨q, hq⟩ : ∃ q, q = w1.heap.size := ⟨_, rfl⟩
 rw [← hq] at V2 ⊢
 have hqr : w.heap.size < q := by omega
 have hqg : q ≠ g := by have := G1.size; omega
 clear hq
 generalize w1.alloc (.cells #[.int .i64 2, .int .u64 0, .string ⟨#[]⟩] 77) = w2 at h2 Z2 G2 hT V2 ⊢
 clear h1 Z1 G1 hs1
 refine (text_any B0 g 40 _ _ h2).mono ?_
 rw [e2]
 rintro e w3 ⟨rfl, h3, g3⟩
 have Z3 := heapG Z2 g3 hne
 have V3 := heapG V2 g3 hqg
 have G3 := grownTrans G2 g3
 have hT := hT.grown g3 hBg
 clear g3 h2 Z2 G2 V2
 have v0 := cellAt V3 0
 have v1 := cellAt V3 1
 have v2 := cellAt V3 2
 have f0 := freeAt V3 0
 have f1 := freeAt V3 1
 have f2 := freeAt V3 2
 simp only [zQ] at v0 v1 v2
 have hz := h3.setNew hqg (by omega) 2 (.string ⟨o.toArray⟩)
 have Z := heapS Z3 (p := ⟨q, 2, none⟩) (by simp; omega) (.string ⟨o.toArray⟩)
 have V := setAt V3 2 (.string ⟨o.toArray⟩)
 have G := grownSetNew G3 (Nat.le_of_lt hqr) 2 (.string ⟨o.toArray⟩)
 have hT := hT.grown (grownSet w3 q 2 (.string ⟨o.toArray⟩)) (by omega)
 simp at V
 go_wp2_with fail
 generalize w3.setCell ⟨q, 2, none⟩ (.string ⟨o.toArray⟩) = wz at hz Z G hT V ⊢
 clear h3 Z3 G3 V3 v0 v1 v2 f0 f1 f2
 refine (ok_any B0 g _ _ hz).mono ?_
 rintro e w9 ⟨rfl, hw9⟩
 rw [← hw9]
 clear hw9
 go_wp2_with fail
 refine (take_any B0 g 9 _ _ hz).mono ?_
 rw [take9]
 rintro e w4 ⟨rfl, h4, g4⟩
 have Z4 := heapG Z g4 hne
 have G4 := grownTrans G g4
 have a0 := cellAt Z4 0
 have a1 := cellAt Z4 1
 have a2 := cellAt Z4 2
 have c0 := freeAt Z4 0
 have c1 := freeAt Z4 1
 have c2 := freeAt Z4 2
 have ZZ := setAt (setAt (setAt Z4 0 (.int .i64 0)) 1 (.int .u64 0)) 2 (.string ⟨#[]⟩)
 have r0 := cellAt ZZ 0
 have r1 := cellAt ZZ 1
 have r2 := cellAt ZZ 2
 simp only [zQ] at a0 a1 a2
 simp at r0 r1 r2
 go_wp2_with fail
 refine bodyPost_ret (v := .agg #[.int .i64 0, .int .u64 0, .string ⟨#[]⟩]) (by simp [results, Tryz.results72, go_sem, r0, r1, r2]) rfl ⟨rfl, ((h4.setNew hne hB _ _).setNew hne hB _ _).setNew hne hB _ _, grownSetNew (grownSetNew (grownSetNew G4 (Nat.le_refl _) _ _) (Nat.le_refl _) _ _) (Nat.le_refl _) _ _⟩
set_option maxHeartbeats 1600000 in
theorem vtake_2_bad (B0 g : Nat) (w : World) (s : C.St) (h : RdrAt w B0 g s) (hT : TabsAt B0 w) (s1 : C.St) (o : List UInt8) (ls : List UInt8) (e1 : C.take 1 s = (2, s1)) (e2 : C.text 40 s1 = (o, (ls, false))) (hf : V.formed 2 0 (⟨o.toArray⟩ : ByteArray).data.toList = false) :
 Calls Tryz.prog 72 #[.pointer (some ⟨g, 0, none⟩)] w fun e w' => e = .returned (.agg #[.int .i64 (0), .int .u64 (0), .string (⟨#[]⟩)]) ∧ RdrAt w' B0 g (ls, true) ∧ w.grownBy w' (some g) := by
 have HF := Lib.hid (fun z (hz : Tabs z) => formed_any 2 0 (⟨o.toArray⟩ : ByteArray) z hz)
 rw [hf] at HF
 unfold V.val at HF
 clear hf
 have hlt : g < w.heap.size := by obtain ⟨_, _, hb, _⟩ := h; exact ltAt hb
 have hBg : B0 ≤ g := by obtain ⟨_, _, _, _, _, _, _, hB⟩ := h; exact hB
 have T1 := take_any B0 g 1 s _ (h.alloc (.cells #[.int .i64 0, .int .u64 0, .string ⟨#[]⟩] 77))
 rw [e1] at T1
 have hT := hT.alloc (.cells #[.int .i64 0, .int .u64 0, .string ⟨#[]⟩] 77)
 have hTB := hT
 go_enter Tryz.func72, Tryz.ntmps72
 go_wp2_with fail
 refine T1.mono ?_
 rintro e w1 ⟨rfl, h1, g1⟩
 have hB : B0 ≤ w.heap.size := by omega
 have hne : w.heap.size ≠ g := by omega
 have Z1 := heapG (heap_alloc_new w _) g1 hne
 have G1 := grownTrans (World.grownBy_alloc w _ (some g)) g1
 have hT := hT.grown g1 hBg
 have hs1 : w.heap.size + 1 ≤ w1.heap.size := by have a := g1.size; simp at a; omega
 clear g1 T1 h hTB
 go_wp2_with fail
 have h2 := h1.alloc (.cells #[.int .i64 2, .int .u64 0, .string ⟨#[]⟩] 77)
 have Z2 := heapA Z1 (.cells #[.int .i64 2, .int .u64 0, .string ⟨#[]⟩] 77)
 have G2 := grownAllocR G1 (.cells #[.int .i64 2, .int .u64 0, .string ⟨#[]⟩] 77)
 have hT := hT.alloc (.cells #[.int .i64 2, .int .u64 0, .string ⟨#[]⟩] 77)
 have V2 := heap_alloc_new w1 (.cells #[.int .i64 2, .int .u64 0, .string ⟨#[]⟩] 77)
 obtain ⟨q, hq⟩ : ∃ q, q = w1.heap.size := ⟨_, rfl⟩
 rw [← hq] at V2 ⊢
 have hqr : w.heap.size < q := by omega
 have hqg : q ≠ g := by have := G1.size; omega
 clear hq
 generalize w1.alloc (.cells #[.int .i64 2, .int .u64 0, .string ⟨#[]⟩] 77) = w2 at h2 Z2 G2 hT V2 ⊢
 clear h1 Z1 G1 hs1
 refine (text_any B0 g 40 _ _ h2).mono ?_
 rw [e2]
 rintro e w3 ⟨rfl, h3, g3⟩
 have Z3 := heapG Z2 g3 hne
 have V3 := heapG V2 g3 hqg
 have G3 := grownTrans G2 g3
 have hT := hT.grown g3 hBg
 clear g3 h2 Z2 G2 V2
 have v0 := cellAt V3 0
 have v1 := cellAt V3 1
 have v2 := cellAt V3 2
 have f0 := freeAt V3 0
 have f1 := freeAt V3 1
 have f2 := freeAt V3 2
 simp only [zQ] at v0 v1 v2
 have hz := h3.setNew hqg (by omega) 2 (.string ⟨o.toArray⟩)
 have Z := heapS Z3 (p := ⟨q, 2, none⟩) (by simp; omega) (.string ⟨o.toArray⟩)
 have V := setAt V3 2 (.string ⟨o.toArray⟩)
 have G := grownSetNew G3 (Nat.le_of_lt hqr) 2 (.string ⟨o.toArray⟩)
 have hT := hT.grown (grownSet w3 q 2 (.string ⟨o.toArray⟩)) (by omega)
 simp at V
 go_wp2_with fail
 generalize w3.setCell ⟨q, 2, none⟩ (.string ⟨o.toArray⟩) = wz at hz Z G hT V ⊢
 clear h3 Z3 G3 V3 v0 v1 v2 f0 f1 f2
 refine (ok_any B0 g _ _ hz).mono ?_
 rintro e w9 ⟨rfl, hw9⟩
 rw [← hw9]
 clear hw9
 have p0 := cellAt V 0
 have p1 := cellAt V 1
 have p2 := cellAt V 2
 simp only [zQ] at p0 p1 p2
 go_wp2_with fail
 refine (HF.out _ hT.tabs).mono ?_
 rintro e w5 ⟨rfl, b5⟩
 have h5 := hz.below b5
 have Z5 := heapB Z b5
 have G5 := grownBelow G b5
 go_wp2_with fail
 refine (take_any B0 g 9 _ _ h5).mono ?_
 rw [take9]
 rintro e w4 ⟨rfl, h4, g4⟩
 have Z4 := heapG Z5 g4 hne
 have G4 := grownTrans G5 g4
 have a0 := cellAt Z4 0
 have a1 := cellAt Z4 1
 have a2 := cellAt Z4 2
 have c0 := freeAt Z4 0
 have c1 := freeAt Z4 1
 have c2 := freeAt Z4 2
 have ZZ := setAt (setAt (setAt Z4 0 (.int .i64 0)) 1 (.int .u64 0)) 2 (.string ⟨#[]⟩)
 have r0 := cellAt ZZ 0
 have r1 := cellAt ZZ 1
 have r2 := cellAt ZZ 2
 simp only [zQ] at a0 a1 a2
 simp at r0 r1 r2
 go_wp2_with fail
 refine bodyPost_ret (v := .agg #[.int .i64 0, .int .u64 0, .string ⟨#[]⟩]) (by simp [results, Tryz.results72, go_sem, r0, r1, r2]) rfl ⟨rfl, ((h4.setNew hne hB _ _).setNew hne hB _ _).setNew hne hB _ _, grownSetNew (grownSetNew (grownSetNew G4 (Nat.le_refl _) _ _) (Nat.le_refl _) _ _) (Nat.le_refl _) _ _⟩
set_option maxHeartbeats 1600000 in
theorem vtake_2_fine (B0 g : Nat) (w : World) (s : C.St) (h : RdrAt w B0 g s) (hT : TabsAt B0 w) (s1 : C.St) (o : List UInt8) (ls : List UInt8) (e1 : C.take 1 s = (2, s1)) (e2 : C.text 40 s1 = (o, (ls, false))) (hf : V.formed 2 0 (⟨o.toArray⟩ : ByteArray).data.toList = true) :
 Calls Tryz.prog 72 #[.pointer (some ⟨g, 0, none⟩)] w fun e w' => e = .returned (.agg #[.int .i64 (2), .int .u64 (0), .string (⟨o.toArray⟩)]) ∧ RdrAt w' B0 g (ls, false) ∧ w.grownBy w' (some g) := by
 have HF := Lib.hid (fun z (hz : Tabs z) => formed_any 2 0 (⟨o.toArray⟩ : ByteArray) z hz)
 rw [hf] at HF
 unfold V.val at HF
 clear hf
 have hlt : g < w.heap.size := by obtain ⟨_, _, hb, _⟩ := h; exact ltAt hb
 have hBg : B0 ≤ g := by obtain ⟨_, _, _, _, _, _, _, hB⟩ := h; exact hB
 have T1 := take_any B0 g 1 s _ (h.alloc (.cells #[.int .i64 0, .int .u64 0, .string ⟨#[]⟩] 77))
 rw [e1] at T1
 have hT := hT.alloc (.cells #[.int .i64 0, .int .u64 0, .string ⟨#[]⟩] 77)
 have hTB := hT
 go_enter Tryz.func72, Tryz.ntmps72
 go_wp2_with fail
 refine T1.mono ?_
 rintro e w1 ⟨rfl, h1, g1⟩
 have hB : B0 ≤ w.heap.size := by omega
 have hne : w.heap.size ≠ g := by omega
 have Z1 := heapG (heap_alloc_new w _) g1 hne
 have G1 := grownTrans (World.grownBy_alloc w _ (some g)) g1
 have hT := hT.grown g1 hBg
 have hs1 : w.heap.size + 1 ≤ w1.heap.size := by have a := g1.size; simp at a; omega
 clear g1 T1 h hTB
 go_wp2_with fail
 have h2 := h1.alloc (.cells #[.int .i64 2, .int .u64 0, .string ⟨#[]⟩] 77)
 have Z2 := heapA Z1 (.cells #[.int .i64 2, .int .u64 0, .string ⟨#[]⟩] 77)
 have G2 := grownAllocR G1 (.cells #[.int .i64 2, .int .u64 0, .string ⟨#[]⟩] 77)
 have hT := hT.alloc (.cells #[.int .i64 2, .int .u64 0, .string ⟨#[]⟩] 77)
 have V2 := heap_alloc_new w1 (.cells #[.int .i64 2, .int .u64 0, .string ⟨#[]⟩] 77)
 obtain ⟨q, hq⟩ : ∃ q, q = w1.heap.size := ⟨_, rfl⟩
 rw [← hq] at V2 ⊢
 have hqr : w.heap.size < q := by omega
 have hqg : q ≠ g := by have := G1.size; omega
 clear hq
 generalize w1.alloc (.cells #[.int .i64 2, .int .u64 0, .string ⟨#[]⟩] 77) = w2 at h2 Z2 G2 hT V2 ⊢
 clear h1 Z1 G1 hs1
 refine (text_any B0 g 40 _ _ h2).mono ?_
 rw [e2]
 rintro e w3 ⟨rfl, h3, g3⟩
 have Z3 := heapG Z2 g3 hne
 have V3 := heapG V2 g3 hqg
 have G3 := grownTrans G2 g3
 have hT := hT.grown g3 hBg
 clear g3 h2 Z2 G2 V2
 have v0 := cellAt V3 0
 have v1 := cellAt V3 1
 have v2 := cellAt V3 2
 have f0 := freeAt V3 0
 have f1 := freeAt V3 1
 have f2 := freeAt V3 2
 simp only [zQ] at v0 v1 v2
 have hz := h3.setNew hqg (by omega) 2 (.string ⟨o.toArray⟩)
 have Z := heapS Z3 (p := ⟨q, 2, none⟩) (by simp; omega) (.string ⟨o.toArray⟩)
 have V := setAt V3 2 (.string ⟨o.toArray⟩)
 have G := grownSetNew G3 (Nat.le_of_lt hqr) 2 (.string ⟨o.toArray⟩)
 have hT := hT.grown (grownSet w3 q 2 (.string ⟨o.toArray⟩)) (by omega)
 simp at V
 go_wp2_with fail
 generalize w3.setCell ⟨q, 2, none⟩ (.string ⟨o.toArray⟩) = wz at hz Z G hT V ⊢
 clear h3 Z3 G3 V3 v0 v1 v2 f0 f1 f2
 refine (ok_any B0 g _ _ hz).mono ?_
 rintro e w9 ⟨rfl, hw9⟩
 rw [← hw9]
 clear hw9
 have p0 := cellAt V 0
 have p1 := cellAt V 1
 have p2 := cellAt V 2
 simp only [zQ] at p0 p1 p2
 go_wp2_with fail
 refine (HF.out _ hT.tabs).mono ?_
 rintro e w5 ⟨rfl, b5⟩
 have h4 := hz.below b5
 have Z4 := heapB Z b5
 have G4 := grownBelow G b5
 have p0 := cellB b5 p0
 have p1 := cellB b5 p1
 have p2 := cellB b5 p2
 have a0 := cellAt Z4 0
 have a1 := cellAt Z4 1
 have a2 := cellAt Z4 2
 have c0 := freeAt Z4 0
 have c1 := freeAt Z4 1
 have c2 := freeAt Z4 2
 have ZZ := setAt (setAt (setAt Z4 0 (.int .i64 2)) 1 (.int .u64 0)) 2 (.string ⟨o.toArray⟩)
 have r0 := cellAt ZZ 0
 have r1 := cellAt ZZ 1
 have r2 := cellAt ZZ 2
 simp only [zQ] at a0 a1 a2
 simp at r0 r1 r2
 go_wp2_with fail
 refine bodyPost_ret (v := .agg #[.int .i64 2, .int .u64 0, .string ⟨o.toArray⟩]) (by simp [results, Tryz.results72, go_sem, r0, r1, r2]) rfl ⟨rfl, ((h4.setNew hne hB _ _).setNew hne hB _ _).setNew hne hB _ _, grownSetNew (grownSetNew (grownSetNew G4 (Nat.le_refl _) _ _) (Nat.le_refl _) _ _) (Nat.le_refl _) _ _⟩
theorem take1_lt (s : C.St) : (C.take 1 s).1 < 256 := take_lt 1 s (by omega)
theorem take8_lt (s : C.St) : (C.take 8 s).1 < 18446744073709551616 := take_lt 8 s (by omega)
theorem vtake_any (B0 g : Nat) (w : World) (s : C.St) (h : RdrAt w B0 g s) (hT : TabsAt B0 w) :
 Calls Tryz.prog 72 #[.pointer (some ⟨g, 0, none⟩)] w fun e w' => e = .returned (V.val ((V.take s).1.1 : Int) (V.take s).1.2.1 ⟨(V.take s).1.2.2.toArray⟩) ∧ RdrAt w' B0 g (V.take s).2 ∧ w.grownBy w' (some g) := by
 have hx := take1_lt s
 have l8 := take8_lt (C.take 1 s).2
 unfold V.take V.take0 V.val
 cases e1 : C.take 1 s with
 | mk x s1 =>
 rw [e1] at hx l8
 simp only at hx l8 ⊢
 by_cases k1 : x = 1
 ·subst k1
  simp only [if_pos]
  cases e2 : C.take 8 s1 with
  | mk x2 r =>
  obtain ⟨ls, f⟩ := r
  rw [e2] at l8
  simp only at l8 ⊢
  cases f with
  | true => simp only [true_or, if_true]; exact vtake_1_fail B0 g w s h hT s1 x2 ls e1 e2
  | false =>
    cases hf : V.formed ((1 : Nat) : Int) x2 [] with
    | false => simp only [Bool.false_eq_true, or_true, if_true]; exact vtake_1_bad B0 g w s h hT s1 x2 ls e1 e2 hf
    | true => simp only [Bool.false_eq_true, or_self, if_false, Bool.true_eq_false]; exact vtake_1_fine B0 g w s h hT s1 x2 ls e1 e2 hf
 ·by_cases k2 : x = 2
  ·subst k2
   simp only [if_neg k1, if_pos]
   cases e2 : C.text 40 s1 with
   | mk o r =>
   obtain ⟨ls, f⟩ := r
   simp only
   cases f with
   | true => simp only [true_or, if_true]; exact vtake_2_fail B0 g w s h hT s1 o ls e1 e2
   | false =>
     cases hf : V.formed ((2 : Nat) : Int) 0 o with
     | false => simp only [Bool.false_eq_true, or_true, if_true]; exact vtake_2_bad B0 g w s h hT s1 o ls e1 e2 hf
     | true => simp only [Bool.false_eq_true, or_self, if_false, Bool.true_eq_false]; exact vtake_2_fine B0 g w s h hT s1 o ls e1 e2 hf
  ·simp only [if_neg k1, if_neg k2]
   obtain ⟨ls, f⟩ := s1
   simp only
   cases f with
   | true => simp only [true_or, if_true]; exact vtake_o_fail B0 g w s h hT x ls e1 hx (by omega) (by omega)
   | false =>
     cases hf : V.formed (x : Int) 0 [] with
     | false => simp only [Bool.false_eq_true, or_true, if_true]; exact vtake_o_bad B0 g w s h hT x ls e1 hx (by omega) (by omega) hf
     | true => simp only [Bool.false_eq_true, or_self, if_false, Bool.true_eq_false]; exact vtake_o_fine B0 g w s h hT x ls e1 hx (by omega) (by omega) hf
end Go.Proofs.YtjofjpmhokjhnaaGreatDoor
