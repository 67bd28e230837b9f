import Derived.Test.YtjofjpmhokjhnaaGreatDoorWfM10
import Derived.Test.YtjofjpmhokjhnaaGreatDoorWfM7
import Derived.Test.YtjofjpmhokjhnaaGreatDoorWfM11
set_option linter.unusedSimpArgs false
set_option linter.unusedVariables false
namespace Go.Proofs.YtjofjpmhokjhnaaGreatDoor
set_option maxRecDepth 20000
open Go.RowKit
set_option maxHeartbeats 1600000 in
theorem rvtake_o_fail (B0 g : Nat) (w : World) (s : C.St) (h : RefAt w B0 g s) (x : Nat) (ls : List UInt8) (e1 : C.take 1 s = (x, (ls, true))) (hx : x < 256) (hn1 : ¬ (x : Int) = 1) (hn2 : ¬ (x : Int) = 2) :
 Calls Tryz.prog 78 #[.pointer (some ⟨g, 0, none⟩)] w fun e w' => e = .returned (.agg #[.int .i64 (0), .int .u64 (0), .string (⟨#[]⟩)]) ∧ RefAt w' B0 g (ls, true) ∧ w.grownBy w' (some g) := by
 have hlt : g < w.heap.size := h.lt.1
 have hBg : B0 ≤ g := h.lt.2
 have T1 := rtake_any B0 g 1 s _ (h.alloc (.cells #[.int .i64 0, .int .u64 0, .string ⟨#[]⟩] 77))
 rw [e1] at T1
 go_enter Tryz.func78, Tryz.ntmps78
 go_wp2_with fail
 refine T1.mono ?_
 rintro e w1 ⟨rfl, h1, g1⟩
 have hB : B0 ≤ w.heap.size := by omega
 have hne : w.heap.size ≠ g := by omega
 have Z1 := heapG (heap_alloc_new w _) g1 hne
 have G1 := grownTrans (World.grownBy_alloc w _ (some g)) g1
 have hs1 : w.heap.size + 1 ≤ w1.heap.size := by have a := g1.size; simp at a; omega
 clear g1 T1 h
 go_upto_region 6 with fail
 have hz := h1.alloc (.cells #[.int .i64 (x : Int), .int .u64 0, .string ⟨#[]⟩] 77)
 have Z := heapA Z1 (.cells #[.int .i64 (x : Int), .int .u64 0, .string ⟨#[]⟩] 77)
 have G := grownAllocR G1 (.cells #[.int .i64 (x : Int), .int .u64 0, .string ⟨#[]⟩] 77)
 have V := heap_alloc_new w1 (.cells #[.int .i64 (x : Int), .int .u64 0, .string ⟨#[]⟩] 77)
 obtain ⟨q, hq⟩ : ∃ q, q = w1.heap.size := ⟨_, rfl⟩
 rw [← hq] at V ⊢
 have hqr : w.heap.size < q := by omega
 have hqg : q ≠ g := by have := G1.size; omega
 clear hq
 generalize w1.alloc (.cells #[.int .i64 (x : Int), .int .u64 0, .string ⟨#[]⟩] 77) = wz at hz Z G V ⊢
 clear h1 Z1 G1 hs1
 have q0 := hz.cell
 have q1 := hz.free
 simp only at q0
 have p0 := cellAt V 0
 have p1 := cellAt V 1
 have p2 := cellAt V 2
 simp only [zQ] at p0 p1 p2
 have h4 := hz.fails
 have Z4 := heapG Z (grownSet wz g 2 (.bool true)) hne
 have G4 := grownTrans G (grownSet wz g 2 (.bool true))
 go_upto_region 8 with fail
 generalize wz.setCell ⟨g, 2, none⟩ (.bool true) = w4 at h4 Z4 G4 ⊢
 clear q0 q1 p0 p1 p2
 have a0 := cellAt Z4 0
 have a1 := cellAt Z4 1
 have a2 := cellAt Z4 2
 have c0 := freeAt Z4 0
 have c1 := freeAt Z4 1
 have c2 := freeAt Z4 2
 have ZZ := setAt (setAt (setAt Z4 0 (.int .i64 0)) 1 (.int .u64 0)) 2 (.string ⟨#[]⟩)
 have r0 := cellAt ZZ 0
 have r1 := cellAt ZZ 1
 have r2 := cellAt ZZ 2
 simp only [zQ] at a0 a1 a2
 simp at r0 r1 r2
 go_wp2_with fail
 refine bodyPost_ret (v := .agg #[.int .i64 0, .int .u64 0, .string ⟨#[]⟩]) (by simp [results, Tryz.results78, go_sem, r0, r1, r2]) rfl ⟨rfl, ((h4.setNew hne hB _ _).setNew hne hB _ _).setNew hne hB _ _, grownSetNew (grownSetNew (grownSetNew G4 (Nat.le_refl _) _ _) (Nat.le_refl _) _ _) (Nat.le_refl _) _ _⟩
set_option maxHeartbeats 1600000 in
theorem rvtake_o_bad (B0 g : Nat) (w : World) (s : C.St) (h : RefAt w B0 g s) (x : Nat) (ls : List UInt8) (e1 : C.take 1 s = (x, (ls, false))) (hx : x < 256) (hn1 : ¬ (x : Int) = 1) (hn2 : ¬ (x : Int) = 2) (hf : V.formed (x : Int) 0 (⟨#[]⟩ : ByteArray).data.toList = false) :
 Calls Tryz.prog 78 #[.pointer (some ⟨g, 0, none⟩)] w fun e w' => e = .returned (.agg #[.int .i64 (0), .int .u64 (0), .string (⟨#[]⟩)]) ∧ RefAt w' B0 g (ls, true) ∧ w.grownBy w' (some g) := by
 have HF := Lib.hid (fun z => rformed_any (x : Int) 0 (by omega) (⟨#[]⟩ : ByteArray) z)
 rw [hf] at HF
 unfold V.val at HF
 clear hf
 have hlt : g < w.heap.size := h.lt.1
 have hBg : B0 ≤ g := h.lt.2
 have T1 := rtake_any B0 g 1 s _ (h.alloc (.cells #[.int .i64 0, .int .u64 0, .string ⟨#[]⟩] 77))
 rw [e1] at T1
 go_enter Tryz.func78, Tryz.ntmps78
 go_wp2_with fail
 refine T1.mono ?_
 rintro e w1 ⟨rfl, h1, g1⟩
 have hB : B0 ≤ w.heap.size := by omega
 have hne : w.heap.size ≠ g := by omega
 have Z1 := heapG (heap_alloc_new w _) g1 hne
 have G1 := grownTrans (World.grownBy_alloc w _ (some g)) g1
 have hs1 : w.heap.size + 1 ≤ w1.heap.size := by have a := g1.size; simp at a; omega
 clear g1 T1 h
 go_upto_region 6 with fail
 have hz := h1.alloc (.cells #[.int .i64 (x : Int), .int .u64 0, .string ⟨#[]⟩] 77)
 have Z := heapA Z1 (.cells #[.int .i64 (x : Int), .int .u64 0, .string ⟨#[]⟩] 77)
 have G := grownAllocR G1 (.cells #[.int .i64 (x : Int), .int .u64 0, .string ⟨#[]⟩] 77)
 have V := heap_alloc_new w1 (.cells #[.int .i64 (x : Int), .int .u64 0, .string ⟨#[]⟩] 77)
 obtain ⟨q, hq⟩ : ∃ q, q = w1.heap.size := ⟨_, rfl⟩
 rw [← hq] at V ⊢
 have hqr : w.heap.size < q := by omega
 have hqg : q ≠ g := by have := G1.size; omega
 clear hq
 generalize w1.alloc (.cells #[.int .i64 (x : Int), .int .u64 0, .string ⟨#[]⟩] 77) = wz at hz Z G V ⊢
 clear h1 Z1 G1 hs1
 have q0 := hz.cell
 have q1 := hz.free
 simp only at q0
 have p0 := cellAt V 0
 have p1 := cellAt V 1
 have p2 := cellAt V 2
 simp only [zQ] at p0 p1 p2
 go_wp2_with fail
 refine (HF.out _).mono ?_
 rintro e w5 ⟨rfl, b5⟩
 clear q0 q1
 have h5 := hz.below b5
 have Z5 := heapB Z b5
 have G5 := grownBelow G b5
 have q0 := h5.cell
 have q1 := h5.free
 simp only at q0
 have h4 := h5.fails
 have Z4 := heapG Z5 (grownSet w5 g 2 (.bool true)) hne
 have G4 := grownTrans G5 (grownSet w5 g 2 (.bool true))
 go_upto_region 8 with fail
 generalize w5.setCell ⟨g, 2, none⟩ (.bool true) = w4 at h4 Z4 G4 ⊢
 clear q0 q1 p0 p1 p2 Z5
 have a0 := cellAt Z4 0
 have a1 := cellAt Z4 1
 have a2 := cellAt Z4 2
 have c0 := freeAt Z4 0
 have c1 := freeAt Z4 1
 have c2 := freeAt Z4 2
 have ZZ := setAt (setAt (setAt Z4 0 (.int .i64 0)) 1 (.int .u64 0)) 2 (.string ⟨#[]⟩)
 have r0 := cellAt ZZ 0
 have r1 := cellAt ZZ 1
 have r2 := cellAt ZZ 2
 simp only [zQ] at a0 a1 a2
 simp at r0 r1 r2
 go_wp2_with fail
 refine bodyPost_ret (v := .agg #[.int .i64 0, .int .u64 0, .string ⟨#[]⟩]) (by simp [results, Tryz.results78, go_sem, r0, r1, r2]) rfl ⟨rfl, ((h4.setNew hne hB _ _).setNew hne hB _ _).setNew hne hB _ _, grownSetNew (grownSetNew (grownSetNew G4 (Nat.le_refl _) _ _) (Nat.le_refl _) _ _) (Nat.le_refl _) _ _⟩
set_option maxHeartbeats 1600000 in
theorem rvtake_o_fine (B0 g : Nat) (w : World) (s : C.St) (h : RefAt w B0 g s) (x : Nat) (ls : List UInt8) (e1 : C.take 1 s = (x, (ls, false))) (hx : x < 256) (hn1 : ¬ (x : Int) = 1) (hn2 : ¬ (x : Int) = 2) (hf : V.formed (x : Int) 0 (⟨#[]⟩ : ByteArray).data.toList = true) :
 Calls Tryz.prog 78 #[.pointer (some ⟨g, 0, none⟩)] w fun e w' => e = .returned (.agg #[.int .i64 ((x : Int)), .int .u64 (0), .string (⟨#[]⟩)]) ∧ RefAt w' B0 g (ls, false) ∧ w.grownBy w' (some g) := by
 have HF := Lib.hid (fun z => rformed_any (x : Int) 0 (by omega) (⟨#[]⟩ : ByteArray) z)
 rw [hf] at HF
 unfold V.val at HF
 clear hf
 have hlt : g < w.heap.size := h.lt.1
 have hBg : B0 ≤ g := h.lt.2
 have T1 := rtake_any B0 g 1 s _ (h.alloc (.cells #[.int .i64 0, .int .u64 0, .string ⟨#[]⟩] 77))
 rw [e1] at T1
 go_enter Tryz.func78, Tryz.ntmps78
 go_wp2_with fail
 refine T1.mono ?_
 rintro e w1 ⟨rfl, h1, g1⟩
 have hB : B0 ≤ w.heap.size := by omega
 have hne : w.heap.size ≠ g := by omega
 have Z1 := heapG (heap_alloc_new w _) g1 hne
 have G1 := grownTrans (World.grownBy_alloc w _ (some g)) g1
 have hs1 : w.heap.size + 1 ≤ w1.heap.size := by have a := g1.size; simp at a; omega
 clear g1 T1 h
 go_upto_region 6 with fail
 have hz := h1.alloc (.cells #[.int .i64 (x : Int), .int .u64 0, .string ⟨#[]⟩] 77)
 have Z := heapA Z1 (.cells #[.int .i64 (x : Int), .int .u64 0, .string ⟨#[]⟩] 77)
 have G := grownAllocR G1 (.cells #[.int .i64 (x : Int), .int .u64 0, .string ⟨#[]⟩] 77)
 have V := heap_alloc_new w1 (.cells #[.int .i64 (x : Int), .int .u64 0, .string ⟨#[]⟩] 77)
 obtain ⟨q, hq⟩ : ∃ q, q = w1.heap.size := ⟨_, rfl⟩
 rw [← hq] at V ⊢
 have hqr : w.heap.size < q := by omega
 have hqg : q ≠ g := by have := G1.size; omega
 clear hq
 generalize w1.alloc (.cells #[.int .i64 (x : Int), .int .u64 0, .string ⟨#[]⟩] 77) = wz at hz Z G V ⊢
 clear h1 Z1 G1 hs1
 have q0 := hz.cell
 have q1 := hz.free
 simp only at q0
 have p0 := cellAt V 0
 have p1 := cellAt V 1
 have p2 := cellAt V 2
 simp only [zQ] at p0 p1 p2
 go_wp2_with fail
 refine (HF.out _).mono ?_
 rintro e w5 ⟨rfl, b5⟩
 clear q0 q1
 have h4 := hz.below b5
 have Z4 := heapB Z b5
 have G4 := grownBelow G b5
 have p0 := cellB b5 p0
 have p1 := cellB b5 p1
 have p2 := cellB b5 p2
 have a0 := cellAt Z4 0
 have a1 := cellAt Z4 1
 have a2 := cellAt Z4 2
 have c0 := freeAt Z4 0
 have c1 := freeAt Z4 1
 have c2 := freeAt Z4 2
 have ZZ := setAt (setAt (setAt Z4 0 (.int .i64 (x : Int))) 1 (.int .u64 0)) 2 (.string ⟨#[]⟩)
 have r0 := cellAt ZZ 0
 have r1 := cellAt ZZ 1
 have r2 := cellAt ZZ 2
 simp only [zQ] at a0 a1 a2
 simp at r0 r1 r2
 go_wp2_with fail
 refine bodyPost_ret (v := .agg #[.int .i64 (x : Int), .int .u64 0, .string ⟨#[]⟩]) (by simp [results, Tryz.results78, go_sem, r0, r1, r2]) rfl ⟨rfl, ((h4.setNew hne hB _ _).setNew hne hB _ _).setNew hne hB _ _, grownSetNew (grownSetNew (grownSetNew G4 (Nat.le_refl _) _ _) (Nat.le_refl _) _ _) (Nat.le_refl _) _ _⟩
set_option maxHeartbeats 1600000 in
theorem rvtake_1_fail (B0 g : Nat) (w : World) (s : C.St) (h : RefAt w B0 g s) (s1 : C.St) (x2 : Nat) (ls : List UInt8) (e1 : C.take 1 s = (1, s1)) (bb : x2 < 18446744073709551616) (e2 : C.take 8 s1 = (x2, (ls, true))) :
 Calls Tryz.prog 78 #[.pointer (some ⟨g, 0, none⟩)] w fun e w' => e = .returned (.agg #[.int .i64 (0), .int .u64 (0), .string (⟨#[]⟩)]) ∧ RefAt w' B0 g (ls, true) ∧ w.grownBy w' (some g) := by
 have hlt : g < w.heap.size := h.lt.1
 have hBg : B0 ≤ g := h.lt.2
 have T1 := rtake_any B0 g 1 s _ (h.alloc (.cells #[.int .i64 0, .int .u64 0, .string ⟨#[]⟩] 77))
 rw [e1] at T1
 go_enter Tryz.func78, Tryz.ntmps78
 go_wp2_with fail
 refine T1.mono ?_
 rintro e w1 ⟨rfl, h1, g1⟩
 have hB : B0 ≤ w.heap.size := by omega
 have hne : w.heap.size ≠ g := by omega
 have Z1 := heapG (heap_alloc_new w _) g1 hne
 have G1 := grownTrans (World.grownBy_alloc w _ (some g)) g1
 have hs1 : w.heap.size + 1 ≤ w1.heap.size := by have a := g1.size; simp at a; omega
 clear g1 T1 h
 go_wp2_with fail
 have h2 := h1.alloc (.cells #[.int .i64 1, .int .u64 0, .string ⟨#[]⟩] 77)
 have Z2 := heapA Z1 (.cells #[.int .i64 1, .int .u64 0, .string ⟨#[]⟩] 77)
 have G2 := grownAllocR G1 (.cells #[.int .i64 1, .int .u64 0, .string ⟨#[]⟩] 77)
 have V2 := heap_alloc_new w1 (.cells #[.int .i64 1, .int .u64 0, .string ⟨#[]⟩] 77)
 obtain ⟨q, hq⟩ : ∃ q, q = w1.heap.size := ⟨_, rfl⟩
 rw [← hq] at V2 ⊢
 have hqr : w.heap.size < q := by omega
 have hqg : q ≠ g := by have := G1.size; omega
 clear hq
 generalize w1.alloc (.cells #[.int .i64 1, .int .u64 0, .string ⟨#[]⟩] 77) = w2 at h2 Z2 G2 V2 ⊢
 clear h1 Z1 G1 hs1
 refine (rtake_any B0 g 8 _ _ h2).mono ?_
 rw [e2]
 rintro e w3 ⟨rfl, h3, g3⟩
 have Z3 := heapG Z2 g3 hne
 have V3 := heapG V2 g3 hqg
 have G3 := grownTrans G2 g3
 clear g3 h2 Z2 G2 V2
 have v0 := cellAt V3 0
 have v1 := cellAt V3 1
 have v2 := cellAt V3 2
 have f0 := freeAt V3 0
 have f1 := freeAt V3 1
 have f2 := freeAt V3 2
 simp only [zQ] at v0 v1 v2
 have hz := h3.setNew hqg (by omega) 1 (.int .u64 (x2 : Int))
 have Z := heapS Z3 (p := ⟨q, 1, none⟩) (by simp; omega) (.int .u64 (x2 : Int))
 have V := setAt V3 1 (.int .u64 (x2 : Int))
 have G := grownSetNew G3 (Nat.le_of_lt hqr) 1 (.int .u64 (x2 : Int))
 simp at V
 go_upto_region 6 with fail
 generalize w3.setCell ⟨q, 1, none⟩ (.int .u64 (x2 : Int)) = wz at hz Z G V ⊢
 clear h3 Z3 G3 V3 v0 v1 v2 f0 f1 f2
 have q0 := hz.cell
 have q1 := hz.free
 simp only at q0
 have p0 := cellAt V 0
 have p1 := cellAt V 1
 have p2 := cellAt V 2
 simp only [zQ] at p0 p1 p2
 have h4 := hz.fails
 have Z4 := heapG Z (grownSet wz g 2 (.bool true)) hne
 have G4 := grownTrans G (grownSet wz g 2 (.bool true))
 go_upto_region 8 with fail
 generalize wz.setCell ⟨g, 2, none⟩ (.bool true) = w4 at h4 Z4 G4 ⊢
 clear q0 q1 p0 p1 p2
 have a0 := cellAt Z4 0
 have a1 := cellAt Z4 1
 have a2 := cellAt Z4 2
 have c0 := freeAt Z4 0
 have c1 := freeAt Z4 1
 have c2 := freeAt Z4 2
 have ZZ := setAt (setAt (setAt Z4 0 (.int .i64 0)) 1 (.int .u64 0)) 2 (.string ⟨#[]⟩)
 have r0 := cellAt ZZ 0
 have r1 := cellAt ZZ 1
 have r2 := cellAt ZZ 2
 simp only [zQ] at a0 a1 a2
 simp at r0 r1 r2
 go_wp2_with fail
 refine bodyPost_ret (v := .agg #[.int .i64 0, .int .u64 0, .string ⟨#[]⟩]) (by simp [results, Tryz.results78, go_sem, r0, r1, r2]) rfl ⟨rfl, ((h4.setNew hne hB _ _).setNew hne hB _ _).setNew hne hB _ _, grownSetNew (grownSetNew (grownSetNew G4 (Nat.le_refl _) _ _) (Nat.le_refl _) _ _) (Nat.le_refl _) _ _⟩
set_option maxHeartbeats 1600000 in
theorem rvtake_1_bad (B0 g : Nat) (w : World) (s : C.St) (h : RefAt w B0 g s) (s1 : C.St) (x2 : Nat) (ls : List UInt8) (e1 : C.take 1 s = (1, s1)) (bb : x2 < 18446744073709551616) (e2 : C.take 8 s1 = (x2, (ls, false))) (hf : V.formed 1 x2 (⟨#[]⟩ : ByteArray).data.toList = false) :
 Calls Tryz.prog 78 #[.pointer (some ⟨g, 0, none⟩)] w fun e w' => e = .returned (.agg #[.int .i64 (0), .int .u64 (0), .string (⟨#[]⟩)]) ∧ RefAt w' B0 g (ls, true) ∧ w.grownBy w' (some g) := by
 have HF := Lib.hid (fun z => rformed_any 1 x2 (bb) (⟨#[]⟩ : ByteArray) z)
 rw [hf] at HF
 unfold V.val at HF
 clear hf
 have hlt : g < w.heap.size := h.lt.1
 have hBg : B0 ≤ g := h.lt.2
 have T1 := rtake_any B0 g 1 s _ (h.alloc (.cells #[.int .i64 0, .int .u64 0, .string ⟨#[]⟩] 77))
 rw [e1] at T1
 go_enter Tryz.func78, Tryz.ntmps78
 go_wp2_with fail
 refine T1.mono ?_
 rintro e w1 ⟨rfl, h1, g1⟩
 have hB : B0 ≤ w.heap.size := by omega
 have hne : w.heap.size ≠ g := by omega
 have Z1 := heapG (heap_alloc_new w _) g1 hne
 have G1 := grownTrans (World.grownBy_alloc w _ (some g)) g1
 have hs1 : w.heap.size + 1 ≤ w1.heap.size := by have a := g1.size; simp at a; omega
 clear g1 T1 h
 go_wp2_with fail
 have h2 := h1.alloc (.cells #[.int .i64 1, .int .u64 0, .string ⟨#[]⟩] 77)
 have Z2 := heapA Z1 (.cells #[.int .i64 1, .int .u64 0, .string ⟨#[]⟩] 77)
 have G2 := grownAllocR G1 (.cells #[.int .i64 1, .int .u64 0, .string ⟨#[]⟩] 77)
 have V2 := heap_alloc_new w1 (.cells #[.int .i64 1, .int .u64 0, .string ⟨#[]⟩] 77)
 obtain ⟨q, hq⟩ : ∃ q, q = w1.heap.size := ⟨_, rfl⟩
 rw [← hq] at V2 ⊢
 have hqr : w.heap.size < q := by omega
 have hqg : q ≠ g := by have := G1.size; omega
 clear hq
 generalize w1.alloc (.cells #[.int .i64 1, .int .u64 0, .string ⟨#[]⟩] 77) = w2 at h2 Z2 G2 V2 ⊢
 clear h1 Z1 G1 hs1
 refine (rtake_any B0 g 8 _ _ h2).mono ?_
 rw [e2]
 rintro e w3 ⟨rfl, h3, g3⟩
 have Z3 := heapG Z2 g3 hne
 have V3 := heapG V2 g3 hqg
 have G3 := grownTrans G2 g3
 clear g3 h2 Z2 G2 V2
 have v0 := cellAt V3 0
 have v1 := cellAt V3 1
 have v2 := cellAt V3 2
 have f0 := freeAt V3 0
 have f1 := freeAt V3 1
 have f2 := freeAt V3 2
 simp only [zQ] at v0 v1 v2
 have hz := h3.setNew hqg (by omega) 1 (.int .u64 (x2 : Int))
 have Z := heapS Z3 (p := ⟨q, 1, none⟩) (by simp; omega) (.int .u64 (x2 : Int))
 have V := setAt V3 1 (.int .u64 (x2 : Int))
 have G := grownSetNew G3 (Nat.le_of_lt hqr) 1 (.int .u64 (x2 : Int))
 simp at V
 go_upto_region 6 with fail
 generalize w3.setCell ⟨q, 1, none⟩ (.int .u64 (x2 : Int)) = wz at hz Z G V ⊢
 clear h3 Z3 G3 V3 v0 v1 v2 f0 f1 f2
 have q0 := hz.cell
 have q1 := hz.free
 simp only at q0
 have p0 := cellAt V 0
 have p1 := cellAt V 1
 have p2 := cellAt V 2
 simp only [zQ] at p0 p1 p2
 go_wp2_with fail
 refine (HF.out _).mono ?_
 rintro e w5 ⟨rfl, b5⟩
 clear q0 q1
 have h5 := hz.below b5
 have Z5 := heapB Z b5
 have G5 := grownBelow G b5
 have q0 := h5.cell
 have q1 := h5.free
 simp only at q0
 have h4 := h5.fails
 have Z4 := heapG Z5 (grownSet w5 g 2 (.bool true)) hne
 have G4 := grownTrans G5 (grownSet w5 g 2 (.bool true))
 go_upto_region 8 with fail
 generalize w5.setCell ⟨g, 2, none⟩ (.bool true) = w4 at h4 Z4 G4 ⊢
 clear q0 q1 p0 p1 p2 Z5
 have a0 := cellAt Z4 0
 have a1 := cellAt Z4 1
 have a2 := cellAt Z4 2
 have c0 := freeAt Z4 0
 have c1 := freeAt Z4 1
 have c2 := freeAt Z4 2
 have ZZ := setAt (setAt (setAt Z4 0 (.int .i64 0)) 1 (.int .u64 0)) 2 (.string ⟨#[]⟩)
 have r0 := cellAt ZZ 0
 have r1 := cellAt ZZ 1
 have r2 := cellAt ZZ 2
 simp only [zQ] at a0 a1 a2
 simp at r0 r1 r2
 go_wp2_with fail
 refine bodyPost_ret (v := .agg #[.int .i64 0, .int .u64 0, .string ⟨#[]⟩]) (by simp [results, Tryz.results78, go_sem, r0, r1, r2]) rfl ⟨rfl, ((h4.setNew hne hB _ _).setNew hne hB _ _).setNew hne hB _ _, grownSetNew (grownSetNew (grownSetNew G4 (Nat.le_refl _) _ _) (Nat.le_refl _) _ _) (Nat.le_refl _) _ _⟩
set_option maxHeartbeats 1600000 in
theorem rvtake_1_fine (B0 g : Nat) (w : World) (s : C.St) (h : RefAt w B0 g s) (s1 : C.St) (x2 : Nat) (ls : List UInt8) (e1 : C.take 1 s = (1, s1)) (bb : x2 < 18446744073709551616) (e2 : C.take 8 s1 = (x2, (ls, false))) (hf : V.formed 1 x2 (⟨#[]⟩ : ByteArray).data.toList = true) :
 Calls Tryz.prog 78 #[.pointer (some ⟨g, 0, none⟩)] w fun e w' => e = .returned (.agg #[.int .i64 (1), .int .u64 ((x2 : Int)), .string (⟨#[]⟩)]) ∧ RefAt w' B0 g (ls, false) ∧ w.grownBy w' (some g) := by
 have HF := Lib.hid (fun z => rformed_any 1 x2 (bb) (⟨#[]⟩ : ByteArray) z)
 rw [hf] at HF
 unfold V.val at HF
 clear hf
 have hlt : g < w.heap.size := h.lt.1
 have hBg : B0 ≤ g := h.lt.2
 have T1 := rtake_any B0 g 1 s _ (h.alloc (.cells #[.int .i64 0, .int .u64 0, .string ⟨#[]⟩] 77))
 rw [e1] at T1
 go_enter Tryz.func78, Tryz.ntmps78
 go_wp2_with fail
 refine T1.mono ?_
 rintro e w1 ⟨rfl, h1, g1⟩
 have hB : B0 ≤ w.heap.size := by omega
 have hne : w.heap.size ≠ g := by omega
 have Z1 := heapG (heap_alloc_new w _) g1 hne
 have G1 := grownTrans (World.grownBy_alloc w _ (some g)) g1
 have hs1 : w.heap.size + 1 ≤ w1.heap.size := by have a := g1.size; simp at a; omega
 clear g1 T1 h
 go_wp2_with fail
 have h2 := h1.alloc (.cells #[.int .i64 1, .int .u64 0, .string ⟨#[]⟩] 77)
 have Z2 := heapA Z1 (.cells #[.int .i64 1, .int .u64 0, .string ⟨#[]⟩] 77)
 have G2 := grownAllocR G1 (.cells #[.int .i64 1, .int .u64 0, .string ⟨#[]⟩] 77)
 have V2 := heap_alloc_new w1 (.cells #[.int .i64 1, .int .u64 0, .string ⟨#[]⟩] 77)
 obtain ⟨q, hq⟩ : ∃ q, q = w1.heap.size := ⟨_, rfl⟩
 rw [← hq] at V2 ⊢
 have hqr : w.heap.size < q := by omega
 have hqg : q ≠ g := by have := G1.size; omega
 clear hq
 generalize w1.alloc (.cells #[.int .i64 1, .int .u64 0, .string ⟨#[]⟩] 77) = w2 at h2 Z2 G2 V2 ⊢
 clear h1 Z1 G1 hs1
 refine (rtake_any B0 g 8 _ _ h2).mono ?_
 rw [e2]
 rintro e w3 ⟨rfl, h3, g3⟩
 have Z3 := heapG Z2 g3 hne
 have V3 := heapG V2 g3 hqg
 have G3 := grownTrans G2 g3
 clear g3 h2 Z2 G2 V2
 have v0 := cellAt V3 0
 have v1 := cellAt V3 1
 have v2 := cellAt V3 2
 have f0 := freeAt V3 0
 have f1 := freeAt V3 1
 have f2 := freeAt V3 2
 simp only [zQ] at v0 v1 v2
 have hz := h3.setNew hqg (by omega) 1 (.int .u64 (x2 : Int))
 have Z := heapS Z3 (p := ⟨q, 1, none⟩) (by simp; omega) (.int .u64 (x2 : Int))
 have V := setAt V3 1 (.int .u64 (x2 : Int))
 have G := grownSetNew G3 (Nat.le_of_lt hqr) 1 (.int .u64 (x2 : Int))
 simp at V
 go_upto_region 6 with fail
 generalize w3.setCell ⟨q, 1, none⟩ (.int .u64 (x2 : Int)) = wz at hz Z G V ⊢
 clear h3 Z3 G3 V3 v0 v1 v2 f0 f1 f2
 have q0 := hz.cell
 have q1 := hz.free
 simp only at q0
 have p0 := cellAt V 0
 have p1 := cellAt V 1
 have p2 := cellAt V 2
 simp only [zQ] at p0 p1 p2
 go_wp2_with fail
 refine (HF.out _).mono ?_
 rintro e w5 ⟨rfl, b5⟩
 clear q0 q1
 have h4 := hz.below b5
 have Z4 := heapB Z b5
 have G4 := grownBelow G b5
 have p0 := cellB b5 p0
 have p1 := cellB b5 p1
 have p2 := cellB b5 p2
 have a0 := cellAt Z4 0
 have a1 := cellAt Z4 1
 have a2 := cellAt Z4 2
 have c0 := freeAt Z4 0
 have c1 := freeAt Z4 1
 have c2 := freeAt Z4 2
 have ZZ := setAt (setAt (setAt Z4 0 (.int .i64 1)) 1 (.int .u64 (x2 : Int))) 2 (.string ⟨#[]⟩)
 have r0 := cellAt ZZ 0
 have r1 := cellAt ZZ 1
 have r2 := cellAt ZZ 2
 simp only [zQ] at a0 a1 a2
 simp at r0 r1 r2
 go_wp2_with fail
 refine bodyPost_ret (v := .agg #[.int .i64 1, .int .u64 (x2 : Int), .string ⟨#[]⟩]) (by simp [results, Tryz.results78, go_sem, r0, r1, r2]) rfl ⟨rfl, ((h4.setNew hne hB _ _).setNew hne hB _ _).setNew hne hB _ _, grownSetNew (grownSetNew (grownSetNew G4 (Nat.le_refl _) _ _) (Nat.le_refl _) _ _) (Nat.le_refl _) _ _⟩
set_option maxHeartbeats 1600000 in
theorem rvtake_2_fail (B0 g : Nat) (w : World) (s : C.St) (h : RefAt w B0 g s) (s1 : C.St) (o : List UInt8) (ls : List UInt8) (e1 : C.take 1 s = (2, s1)) (e2 : C.text 40 s1 = (o, (ls, true))) :
 Calls Tryz.prog 78 #[.pointer (some ⟨g, 0, none⟩)] w fun e w' => e = .returned (.agg #[.int .i64 (0), .int .u64 (0), .string (⟨#[]⟩)]) ∧ RefAt w' B0 g (ls, true) ∧ w.grownBy w' (some g) := by
 have hlt : g < w.heap.size := h.lt.1
 have hBg : B0 ≤ g := h.lt.2
 have T1 := rtake_any B0 g 1 s _ (h.alloc (.cells #[.int .i64 0, .int .u64 0, .string ⟨#[]⟩] 77))
 rw [e1] at T1
 go_enter Tryz.func78, Tryz.ntmps78
 go_wp2_with fail
 refine T1.mono ?_
 rintro e w1 ⟨rfl, h1, g1⟩
 have hB : B0 ≤ w.heap.size := by omega
 have hne : w.heap.size ≠ g := by omega
 have Z1 := heapG (heap_alloc_new w _) g1 hne
 have G1 := grownTrans (World.grownBy_alloc w _ (some g)) g1
 have hs1 : w.heap.size + 1 ≤ w1.heap.size := by have a := g1.size; simp at a; omega
 clear g1 T1 h
 go_wp2_with fail
 have h2 := h1.alloc (.cells #[.int .i64 2, .int .u64 0, .string ⟨#[]⟩] 77)
 have Z2 := heapA Z1 (.cells #[.int .i64 2, .int .u64 0, .string ⟨#[]⟩] 77)
 have G2 := grownAllocR G1 (.cells #[.int .i64 2, .int .u64 0, .string ⟨#[]⟩] 77)
 have V2 := heap_alloc_new w1 (.cells #[.int .i64 2, .int .u64 0, .string ⟨#[]⟩] 77)
 obtain ⟨q, hq⟩ : ∃ q, q = w1.heap.size := ⟨_, rfl⟩
 rw [← hq] at V2 ⊢
 have hqr : w.heap.size < q := by omega
 have hqg : q ≠ g := by have := G1.size; omega
 clear hq
 generalize w1.alloc (.cells #[.int .i64 2, .int .u64 0, .string ⟨#[]⟩] 77) = w2 at h2 Z2 G2 V2 ⊢
 clear h1 Z1 G1 hs1
 refine (rtext_any B0 g 40 _ _ h2).mono ?_
 rw [e2]
 rintro e w3 ⟨rfl, h3, g3⟩
 have Z3 := heapG Z2 g3 hne
 have V3 := heapG V2 g3 hqg
 have G3 := grownTrans G2 g3
 clear g3 h2 Z2 G2 V2
 have v0 := cellAt V3 0
 have v1 := cellAt V3 1
 have v2 := cellAt V3 2
 have f0 := freeAt V3 0
 have f1 := freeAt V3 1
 have f2 := freeAt V3 2
 simp only [zQ] at v0 v1 v2
 have hz := h3.setNew hqg (by omega) 2 (.string ⟨o.toArray⟩)
 have Z := heapS Z3 (p := ⟨q, 2, none⟩) (by simp; omega) (.string ⟨o.toArray⟩)
 have V := setAt V3 2 (.string ⟨o.toArray⟩)
 have G := grownSetNew G3 (Nat.le_of_lt hqr) 2 (.string ⟨o.toArray⟩)
 simp at V
 go_upto_region 6 with fail
 generalize w3.setCell ⟨q, 2, none⟩ (.string ⟨o.toArray⟩) = wz at hz Z G V ⊢
 clear h3 Z3 G3 V3 v0 v1 v2 f0 f1 f2
 have q0 := hz.cell
 have q1 := hz.free
 simp only at q0
 have p0 := cellAt V 0
 have p1 := cellAt V 1
 have p2 := cellAt V 2
 simp only [zQ] at p0 p1 p2
 have h4 := hz.fails
 have Z4 := heapG Z (grownSet wz g 2 (.bool true)) hne
 have G4 := grownTrans G (grownSet wz g 2 (.bool true))
 go_upto_region 8 with fail
 generalize wz.setCell ⟨g, 2, none⟩ (.bool true) = w4 at h4 Z4 G4 ⊢
 clear q0 q1 p0 p1 p2
 have a0 := cellAt Z4 0
 have a1 := cellAt Z4 1
 have a2 := cellAt Z4 2
 have c0 := freeAt Z4 0
 have c1 := freeAt Z4 1
 have c2 := freeAt Z4 2
 have ZZ := setAt (setAt (setAt Z4 0 (.int .i64 0)) 1 (.int .u64 0)) 2 (.string ⟨#[]⟩)
 have r0 := cellAt ZZ 0
 have r1 := cellAt ZZ 1
 have r2 := cellAt ZZ 2
 simp only [zQ] at a0 a1 a2
 simp at r0 r1 r2
 go_wp2_with fail
 refine bodyPost_ret (v := .agg #[.int .i64 0, .int .u64 0, .string ⟨#[]⟩]) (by simp [results, Tryz.results78, go_sem, r0, r1, r2]) rfl ⟨rfl, ((h4.setNew hne hB _ _).setNew hne hB _ _).setNew hne hB _ _, grownSetNew (grownSetNew (grownSetNew G4 (Nat.le_refl _) _ _) (Nat.le_refl _) _ _) (Nat.le_refl _) _ _⟩
set_option maxHeartbeats 1600000 in
theorem rvtake_2_bad (B0 g : Nat) (w : World) (s : C.St) (h : RefAt w B0 g s) (s1 : C.St) (o : List UInt8) (ls : List UInt8) (e1 : C.take 1 s = (2, s1)) (e2 : C.text 40 s1 = (o, (ls, false))) (hf : V.formed 2 0 (⟨o.toArray⟩ : ByteArray).data.toList = false) :
 Calls Tryz.prog 78 #[.pointer (some ⟨g, 0, none⟩)] w fun e w' => e = .returned (.agg #[.int .i64 (0), .int .u64 (0), .string (⟨#[]⟩)]) ∧ RefAt w' B0 g (ls, true) ∧ w.grownBy w' (some g) := by
 have HF := Lib.hid (fun z => rformed_any 2 0 (by omega) (⟨o.toArray⟩ : ByteArray) z)
 rw [hf] at HF
 unfold V.val at HF
 clear hf
 have hlt : g < w.heap.size := h.lt.1
 have hBg : B0 ≤ g := h.lt.2
 have T1 := rtake_any B0 g 1 s _ (h.alloc (.cells #[.int .i64 0, .int .u64 0, .string ⟨#[]⟩] 77))
 rw [e1] at T1
 go_enter Tryz.func78, Tryz.ntmps78
 go_wp2_with fail
 refine T1.mono ?_
 rintro e w1 ⟨rfl, h1, g1⟩
 have hB : B0 ≤ w.heap.size := by omega
 have hne : w.heap.size ≠ g := by omega
 have Z1 := heapG (heap_alloc_new w _) g1 hne
 have G1 := grownTrans (World.grownBy_alloc w _ (some g)) g1
 have hs1 : w.heap.size + 1 ≤ w1.heap.size := by have a := g1.size; simp at a; omega
 clear g1 T1 h
 go_wp2_with fail
 have h2 := h1.alloc (.cells #[.int .i64 2, .int .u64 0, .string ⟨#[]⟩] 77)
 have Z2 := heapA Z1 (.cells #[.int .i64 2, .int .u64 0, .string ⟨#[]⟩] 77)
 have G2 := grownAllocR G1 (.cells #[.int .i64 2, .int .u64 0, .string ⟨#[]⟩] 77)
 have V2 := heap_alloc_new w1 (.cells #[.int .i64 2, .int .u64 0, .string ⟨#[]⟩] 77)
 obtain ⟨q, hq⟩ : ∃ q, q = w1.heap.size := ⟨_, rfl⟩
 rw [← hq] at V2 ⊢
 have hqr : w.heap.size < q := by omega
 have hqg : q ≠ g := by have := G1.size; omega
 clear hq
 generalize w1.alloc (.cells #[.int .i64 2, .int .u64 0, .string ⟨#[]⟩] 77) = w2 at h2 Z2 G2 V2 ⊢
 clear h1 Z1 G1 hs1
 refine (rtext_any B0 g 40 _ _ h2).mono ?_
 rw [e2]
 rintro e w3 ⟨rfl, h3, g3⟩
 have Z3 := heapG Z2 g3 hne
 have V3 := heapG V2 g3 hqg
 have G3 := grownTrans G2 g3
 clear g3 h2 Z2 G2 V2
 have v0 := cellAt V3 0
 have v1 := cellAt V3 1
 have v2 := cellAt V3 2
 have f0 := freeAt V3 0
 have f1 := freeAt V3 1
 have f2 := freeAt V3 2
 simp only [zQ] at v0 v1 v2
 have hz := h3.setNew hqg (by omega) 2 (.string ⟨o.toArray⟩)
 have Z := heapS Z3 (p := ⟨q, 2, none⟩) (by simp; omega) (.string ⟨o.toArray⟩)
 have V := setAt V3 2 (.string ⟨o.toArray⟩)
 have G := grownSetNew G3 (Nat.le_of_lt hqr) 2 (.string ⟨o.toArray⟩)
 simp at V
 go_upto_region 6 with fail
 generalize w3.setCell ⟨q, 2, none⟩ (.string ⟨o.toArray⟩) = wz at hz Z G V ⊢
 clear h3 Z3 G3 V3 v0 v1 v2 f0 f1 f2
 have q0 := hz.cell
 have q1 := hz.free
 simp only at q0
 have p0 := cellAt V 0
 have p1 := cellAt V 1
 have p2 := cellAt V 2
 simp only [zQ] at p0 p1 p2
 go_wp2_with fail
 refine (HF.out _).mono ?_
 rintro e w5 ⟨rfl, b5⟩
 clear q0 q1
 have h5 := hz.below b5
 have Z5 := heapB Z b5
 have G5 := grownBelow G b5
 have q0 := h5.cell
 have q1 := h5.free
 simp only at q0
 have h4 := h5.fails
 have Z4 := heapG Z5 (grownSet w5 g 2 (.bool true)) hne
 have G4 := grownTrans G5 (grownSet w5 g 2 (.bool true))
 go_upto_region 8 with fail
 generalize w5.setCell ⟨g, 2, none⟩ (.bool true) = w4 at h4 Z4 G4 ⊢
 clear q0 q1 p0 p1 p2 Z5
 have a0 := cellAt Z4 0
 have a1 := cellAt Z4 1
 have a2 := cellAt Z4 2
 have c0 := freeAt Z4 0
 have c1 := freeAt Z4 1
 have c2 := freeAt Z4 2
 have ZZ := setAt (setAt (setAt Z4 0 (.int .i64 0)) 1 (.int .u64 0)) 2 (.string ⟨#[]⟩)
 have r0 := cellAt ZZ 0
 have r1 := cellAt ZZ 1
 have r2 := cellAt ZZ 2
 simp only [zQ] at a0 a1 a2
 simp at r0 r1 r2
 go_wp2_with fail
 refine bodyPost_ret (v := .agg #[.int .i64 0, .int .u64 0, .string ⟨#[]⟩]) (by simp [results, Tryz.results78, go_sem, r0, r1, r2]) rfl ⟨rfl, ((h4.setNew hne hB _ _).setNew hne hB _ _).setNew hne hB _ _, grownSetNew (grownSetNew (grownSetNew G4 (Nat.le_refl _) _ _) (Nat.le_refl _) _ _) (Nat.le_refl _) _ _⟩
set_option maxHeartbeats 1600000 in
theorem rvtake_2_fine (B0 g : Nat) (w : World) (s : C.St) (h : RefAt w B0 g s) (s1 : C.St) (o : List UInt8) (ls : List UInt8) (e1 : C.take 1 s = (2, s1)) (e2 : C.text 40 s1 = (o, (ls, false))) (hf : V.formed 2 0 (⟨o.toArray⟩ : ByteArray).data.toList = true) :
 Calls Tryz.prog 78 #[.pointer (some ⟨g, 0, none⟩)] w fun e w' => e = .returned (.agg #[.int .i64 (2), .int .u64 (0), .string (⟨o.toArray⟩)]) ∧ RefAt w' B0 g (ls, false) ∧ w.grownBy w' (some g) := by
 have HF := Lib.hid (fun z => rformed_any 2 0 (by omega) (⟨o.toArray⟩ : ByteArray) z)
 rw [hf] at HF
 unfold V.val at HF
 clear hf
 have hlt : g < w.heap.size := h.lt.1
 have hBg : B0 ≤ g := h.lt.2
 have T1 := rtake_any B0 g 1 s _ (h.alloc (.cells #[.int .i64 0, .int .u64 0, .string ⟨#[]⟩] 77))
 rw [e1] at T1
 go_enter Tryz.func78, Tryz.ntmps78
 go_wp2_with fail
 refine T1.mono ?_
 rintro e w1 ⟨rfl, h1, g1⟩
 have hB : B0 ≤ w.heap.size := by omega
 have hne : w.heap.size ≠ g := by omega
 have Z1 := heapG (heap_alloc_new w _) g1 hne
 have G1 := grownTrans (World.grownBy_alloc w _ (some g)) g1
 have hs1 : w.heap.size + 1 ≤ w1.heap.size := by have a := g1.size; simp at a; omega
 clear g1 T1 h
 go_wp2_with fail
 have h2 := h1.alloc (.cells #[.int .i64 2, .int .u64 0, .string ⟨#[]⟩] 77)
 have Z2 := heapA Z1 (.cells #[.int .i64 2, .int .u64 0, .string ⟨#[]⟩] 77)
 have G2 := grownAllocR G1 (.cells #[.int .i64 2, .int .u64 0, .string ⟨#[]⟩] 77)
 have V2 := heap_alloc_new w1 (.cells #[.int .i64 2, .int .u64 0, .string ⟨#[]⟩] 77)
 obtain ⟨q, hq⟩ : ∃ q, q = w1.heap.size := ⟨_, rfl⟩
 rw [← hq] at V2 ⊢
 have hqr : w.heap.size < q := by omega
 have hqg : q ≠ g := by have := G1.size; omega
 clear hq
 generalize w1.alloc (.cells #[.int .i64 2, .int .u64 0, .string ⟨#[]⟩] 77) = w2 at h2 Z2 G2 V2 ⊢
 clear h1 Z1 G1 hs1
 refine (rtext_any B0 g 40 _ _ h2).mono ?_
 rw [e2]
 rintro e w3 ⟨rfl, h3, g3⟩
 have Z3 := heapG Z2 g3 hne
 have V3 := heapG V2 g3 hqg
 have G3 := grownTrans G2 g3
 clear g3 h2 Z2 G2 V2
 have v0 := cellAt V3 0
 have v1 := cellAt V3 1
 have v2 := cellAt V3 2
 have f0 := freeAt V3 0
 have f1 := freeAt V3 1
 have f2 := freeAt V3 2
 simp only [zQ] at v0 v1 v2
 have hz := h3.setNew hqg (by omega) 2 (.string ⟨o.toArray⟩)
 have Z := heapS Z3 (p := ⟨q, 2, none⟩) (by simp; omega) (.string ⟨o.toArray⟩)
 have V := setAt V3 2 (.string ⟨o.toArray⟩)
 have G := grownSetNew G3 (Nat.le_of_lt hqr) 2 (.string ⟨o.toArray⟩)
 simp at V
 go_upto_region 6 with fail
 generalize w3.setCell ⟨q, 2, none⟩ (.string ⟨o.toArray⟩) = wz at hz Z G V ⊢
 clear h3 Z3 G3 V3 v0 v1 v2 f0 f1 f2
 have q0 := hz.cell
 have q1 := hz.free
 simp only at q0
 have p0 := cellAt V 0
 have p1 := cellAt V 1
 have p2 := cellAt V 2
 simp only [zQ] at p0 p1 p2
 go_wp2_with fail
 refine (HF.out _).mono ?_
 rintro e w5 ⟨rfl, b5⟩
 clear q0 q1
 have h4 := hz.below b5
 have Z4 := heapB Z b5
 have G4 := grownBelow G b5
 have p0 := cellB b5 p0
 have p1 := cellB b5 p1
 have p2 := cellB b5 p2
 have a0 := cellAt Z4 0
 have a1 := cellAt Z4 1
 have a2 := cellAt Z4 2
 have c0 := freeAt Z4 0
 have c1 := freeAt Z4 1
 have c2 := freeAt Z4 2
 have ZZ := setAt (setAt (setAt Z4 0 (.int .i64 2)) 1 (.int .u64 0)) 2 (.string ⟨o.toArray⟩)
 have r0 := cellAt ZZ 0
 have r1 := cellAt ZZ 1
 have r2 := cellAt ZZ 2
 simp only [zQ] at a0 a1 a2
 simp at r0 r1 r2
 go_wp2_with fail
 refine bodyPost_ret (v := .agg #[.int .i64 2, .int .u64 0, .string ⟨o.toArray⟩]) (by simp [results, Tryz.results78, go_sem, r0, r1, r2]) rfl ⟨rfl, ((h4.setNew hne hB _ _).setNew hne hB _ _).setNew hne hB _ _, grownSetNew (grownSetNew (grownSetNew G4 (Nat.le_refl _) _ _) (Nat.le_refl _) _ _) (Nat.le_refl _) _ _⟩
theorem rvtake_any (B0 g : Nat) (w : World) (s : C.St) (h : RefAt w B0 g s) :
 Calls Tryz.prog 78 #[.pointer (some ⟨g, 0, none⟩)] w fun e w' => e = .returned (V.val ((V.take s).1.1 : Int) (V.take s).1.2.1 ⟨(V.take s).1.2.2.toArray⟩) ∧ RefAt w' B0 g (V.take s).2 ∧ w.grownBy w' (some g) := by
 have hx := take1_lt s
 have l8 := take8_lt (C.take 1 s).2
 unfold V.take V.take0 V.val
 cases e1 : C.take 1 s with
 | mk x s1 =>
 rw [e1] at hx l8
 simp only at hx l8 ⊢
 by_cases k1 : x = 1
 ·subst k1
  simp only [if_pos]
  cases e2 : C.take 8 s1 with
  | mk x2 r =>
  obtain ⟨ls, f⟩ := r
  rw [e2] at l8
  simp only at l8 ⊢
  cases f with
  | true => simp only [true_or, if_true]; exact rvtake_1_fail B0 g w s h s1 x2 ls e1 l8 e2
  | false =>
    cases hf : V.formed ((1 : Nat) : Int) x2 [] with
    | false => simp only [Bool.false_eq_true, or_true, if_true]; exact rvtake_1_bad B0 g w s h s1 x2 ls e1 l8 e2 hf
    | true => simp only [Bool.false_eq_true, or_self, if_false, Bool.true_eq_false]; exact rvtake_1_fine B0 g w s h s1 x2 ls e1 l8 e2 hf
 ·by_cases k2 : x = 2
  ·subst k2
   simp only [if_neg k1, if_pos]
   cases e2 : C.text 40 s1 with
   | mk o r =>
   obtain ⟨ls, f⟩ := r
   simp only
   cases f with
   | true => simp only [true_or, if_true]; exact rvtake_2_fail B0 g w s h s1 o ls e1 e2
   | false =>
     cases hf : V.formed ((2 : Nat) : Int) 0 o with
     | false => simp only [Bool.false_eq_true, or_true, if_true]; exact rvtake_2_bad B0 g w s h s1 o ls e1 e2 hf
     | true => simp only [Bool.false_eq_true, or_self, if_false, Bool.true_eq_false]; exact rvtake_2_fine B0 g w s h s1 o ls e1 e2 hf
  ·simp only [if_neg k1, if_neg k2]
   obtain ⟨ls, f⟩ := s1
   simp only
   cases f with
   | true => simp only [true_or, if_true]; exact rvtake_o_fail B0 g w s h x ls e1 hx (by omega) (by omega)
   | false =>
     cases hf : V.formed (x : Int) 0 [] with
     | false => simp only [Bool.false_eq_true, or_true, if_true]; exact rvtake_o_bad B0 g w s h x ls e1 hx (by omega) (by omega) hf
     | true => simp only [Bool.false_eq_true, or_self, if_false, Bool.true_eq_false]; exact rvtake_o_fine B0 g w s h x ls e1 hx (by omega) (by omega) hf
end Go.Proofs.YtjofjpmhokjhnaaGreatDoor
namespace Go.Proofs.YtjofjpmhokjhnaaGreatDoor
set_option maxRecDepth 20001
open Go.RowKit T
section
variable {w z z' : World} {B g k base e sz n : Nat} {v : Value} {xs : List Value} {s : C.St} {cs : Array Value}
theorem RefAt.row (h : RefAt z B g s) (hk : k ≠ g) (hB : B ≤ k) : RefAt (z.setRow k cs) B g s := h.other (grownRow z k cs) hk hB
theorem RefAt.drewS (h : RefAt z B g s) : RefAt z.drew B g s := h
theorem RefAt.set1 (h : RefAt z B g s) (hk : k ≠ g) (hB : B ≤ k) (i : Nat) (u : Value) : RefAt (z.setCells k i [u]) B g s := h.setNew hk hB i u
theorem RefAt.setN (hk : k ≠ g) (hB : B ≤ k) : ∀ (vs : List Value) (i : Nat) (z : World), RefAt z B g s → RefAt (z.setCells k i vs) B g s
 | [], _, _, h => h
 | v :: r, i, z, h => RefAt.setN hk hB r (i + 1) (z.setCell ⟨k, i, none⟩ v) (h.setNew hk hB i v)
theorem RefAt.own (h : RefAt z B g s) (hu : z.ownsRow base e sz v n xs) (hg : z.grownBy z' v.ownBlock) (hb : g < base) : RefAt z' B g s := by
 obtain ⟨A, c, full, at_, hb0, h1, h2, h3, hr, h4, h5⟩ := h
 refine ⟨A, c, full, at_, (hg.block g (ltAt hb0) (ownLow hu hb)).trans hb0, h1, h2, h3, fun j u hj => ?_, h4, h5⟩
 obtain ⟨b, off, hA, hlt, hc⟩ := hr j u hj
 exact ⟨b, off, hA, hlt, (World.cell?_of_block (hg.block b (World.block_lt_of_cell? z _ hc) (ownLow hu (by omega)))).trans hc⟩
theorem grownFail (h : w.grownBy z (some g)) (u : Value) : w.grownBy (z.setCell ⟨g, 2, none⟩ u) (some g) := grownTrans h (grownSet z g 2 u)
end
namespace T
def untl {α : Type} (f : C.St → α × C.St) : Nat → List α × C.St → List α × C.St
 | 0, a => a
 | n + 1, a => bif a.2.2 then a else untl f n (a.1 ++ [(f a.2).1], (f a.2).2)
def rttake0 (s : C.St) : ((Nat × Nat) × List Rd1 × List Wr1) × C.St :=
 let i := idtake s
 let n := C.take 1 i.2
 let R := untl rtake n.1 ([], n.2)
 let m := C.take 1 R.2
 let Ws := untl wtake m.1 ([], m.2)
 ((i.1, R.1, Ws.1), Ws.2)
def rttake (s : C.St) : ((Nat × Nat) × List Rd1 × List Wr1) × C.St :=
 bif (rttake0 s).2.2 || !formed (rttake0 s).1.1.1 (rttake0 s).1.1.2 (rttake0 s).1.2.1 (rttake0 s).1.2.2 then (((0, 0), [], []), ((rttake0 s).2.1, true)) else rttake0 s
end T
end Go.Proofs.YtjofjpmhokjhnaaGreatDoor
