/- The walk of accept.Accept, over whole rows. Conditions: what lies, lies below; the tables lie. (Printed by gen_accg.py.) -/
import Derived.Test.YtbahooohkigcnaaDoorAccS
import Derived.Test.YtbahooohkigcnaaDoorCodeReads
namespace Go.Proofs.YtbahooohkigcnaaDoor
set_option maxRecDepth 20000
open Go.RowKit T
set_option linter.unusedSimpArgs false
set_option linter.unusedVariables false

theorem sizeBal : (Tryd.prog.info? 28).map (·.size) = some 2 := by kernel_rfl
set_option maxHeartbeats 3200000 in
theorem acc_0 (a p : Ac) (br : Nat) (bn sn : Int) (x : Cm) (m1 m2 : Bool) (w : World)
    (hP : ∀ z, Below w.heap.size w z → Calls Tryd.prog 65 #[.agg a.cells.toArray, .agg #[.int .u32 (br : Int), .int .i64 bn]] z fun e w' => e = .returned (.tuple #[.agg p.cells.toArray, .bool m1]) ∧ Below z.heap.size z w')
    (hF : ∀ z, Below w.heap.size w z → Calls Tryd.prog 28 #[.agg x.cells.toArray] z fun e w' => e = .returned (.bool m2) ∧ Below z.heap.size z w')
    (hm : (m1 && m2) = false) :
    Calls Tryd.prog 24 #[.agg a.cells.toArray, .agg #[.int .u32 (br : Int), .int .i64 bn], .int .i64 sn, .agg x.cells.toArray] w fun e w' => e = .returned (.tuple #[.agg a.cells.toArray, .int .i64 0]) ∧ Below w.heap.size w w' := by
  have HP := Lib.hid hP
  have HF := Lib.hid hF
  clear hP hF
  obtain ⟨w0, hw0⟩ : ∃ w0, w0 = (((w.alloc (.cells a.cells.toArray 39)).alloc (.cells #[.int .u32 (br : Int), .int .i64 bn] 28)).alloc (.cells x.cells.toArray 37)).alloc (.cells #[.int .u32 0, .int .i64 0, .int .i64 0, .bool false, .int .u32 0, .int .i64 0, .int .i64 0, .int .i64 0, .int .i64 0, .slice none 0 0, .slice none 0 0, .int .i64 0, .int .i64 0, .int .i64 0, .int .u64 0, .bool false] 39) := ⟨_, rfl⟩
  have ee : Below w.heap.size w w0 := by rw [hw0]; exact ((((Below.refl _ _).alloc (Nat.le_refl _) _).alloc (by simp) _).alloc (by simp; omega) _).alloc (by simp; omega) _
  have Za : w0.heap[w.heap.size]? = some (.cells a.cells.toArray 39) := by rw [hw0]; exact hpA (hpA (hpA (hpN _ _ rfl) _) _) _
  have Zb : w0.heap[w.heap.size + 1]? = some (.cells [.int .u32 (br : Int), .int .i64 bn].toArray 28) := by rw [hw0]; exact hpA (hpA (hpN _ _ (by simp)) _) _
  have Zx : w0.heap[w.heap.size + 1 + 1]? = some (.cells x.cells.toArray 37) := by rw [hw0]; exact hpA (hpN _ _ (by simp)) _
  have Zr : w0.heap[w.heap.size + 1 + 1 + 1]? = some (.cells #[.int .u32 0, .int .i64 0, .int .i64 0, .bool false, .int .u32 0, .int .i64 0, .int .i64 0, .int .i64 0, .int .i64 0, .slice none 0 0, .slice none 0 0, .int .i64 0, .int .i64 0, .int .i64 0, .int .u64 0, .bool false] 39) := by rw [hw0]; exact hpN _ _ (by simp)
  go_enter Tryd.func24, Tryd.ntmps24
  go_upto_region 1 with fail
  change Code.wp _ _ _ _ ((((w.alloc (.cells a.cells.toArray 39)).alloc (.cells #[.int .u32 (br : Int), .int .i64 bn] 28)).alloc (.cells x.cells.toArray 37)).alloc (.cells #[.int .u32 0, .int .i64 0, .int .i64 0, .bool false, .int .u32 0, .int .i64 0, .int .i64 0, .int .i64 0, .int .i64 0, .slice none 0 0, .slice none 0 0, .int .i64 0, .int .i64 0, .int .i64 0, .int .u64 0, .bool false] 39))
  rw [← hw0]
  clear hw0
  have b0 := rowCell Zb 0 rfl
  have b1 := rowCell Zb 1 rfl
  refine wp_region_lit ?_
  refine wpList_load_mid rfl 39 _ rfl (w.heap.size) 0 rfl a.cells _ (rowAt Za) Tryd.underlying39 rfl sizeAc ?_
  go_wp2_with fail
  refine (HP.out w0 ee).mono ?_
  rintro e z1 ⟨rfl, t⟩
  have Za := hpB Za t
  have Zb := hpB Zb t
  have Zx := hpB Zx t
  have Zr := hpB Zr t
  have ee := ee.trans (t.mono ee.size)
  clear t
  clear b0 b1
  dsimp only
  rename_i hK
  refine hK _ _ ?_
  clear hK
  iterate 12 go_step
  have lZa := (Array.getElem?_eq_some_iff.1 Za).1
  have lZb := (Array.getElem?_eq_some_iff.1 Zb).1
  have lZx := (Array.getElem?_eq_some_iff.1 Zx).1
  have lZr := (Array.getElem?_eq_some_iff.1 Zr).1
  have Za := hpA Za (.cells #[.int .u32 0, .int .i64 0, .int .i64 0, .bool false, .int .u32 0, .int .i64 0, .int .i64 0, .int .i64 0, .int .i64 0, .slice none 0 0, .slice none 0 0, .int .i64 0, .int .i64 0, .int .i64 0, .int .u64 0, .bool false] 39)
  have Zb := hpA Zb (.cells #[.int .u32 0, .int .i64 0, .int .i64 0, .bool false, .int .u32 0, .int .i64 0, .int .i64 0, .int .i64 0, .int .i64 0, .slice none 0 0, .slice none 0 0, .int .i64 0, .int .i64 0, .int .i64 0, .int .u64 0, .bool false] 39)
  have Zx := hpA Zx (.cells #[.int .u32 0, .int .i64 0, .int .i64 0, .bool false, .int .u32 0, .int .i64 0, .int .i64 0, .int .i64 0, .int .i64 0, .slice none 0 0, .slice none 0 0, .int .i64 0, .int .i64 0, .int .i64 0, .int .u64 0, .bool false] 39)
  have Zr := hpA Zr (.cells #[.int .u32 0, .int .i64 0, .int .i64 0, .bool false, .int .u32 0, .int .i64 0, .int .i64 0, .int .i64 0, .int .i64 0, .slice none 0 0, .slice none 0 0, .int .i64 0, .int .i64 0, .int .i64 0, .int .u64 0, .bool false] 39)
  have ee := ee.alloc ee.size (.cells #[.int .u32 0, .int .i64 0, .int .i64 0, .bool false, .int .u32 0, .int .i64 0, .int .i64 0, .int .i64 0, .int .i64 0, .slice none 0 0, .slice none 0 0, .int .i64 0, .int .i64 0, .int .i64 0, .int .u64 0, .bool false] 39)
  have Zn := hpN z1 (.cells #[.int .u32 0, .int .i64 0, .int .i64 0, .bool false, .int .u32 0, .int .i64 0, .int .i64 0, .int .i64 0, .int .i64 0, .slice none 0 0, .slice none 0 0, .int .i64 0, .int .i64 0, .int .i64 0, .int .u64 0, .bool false] 39) rfl
  generalize z1.alloc (.cells #[.int .u32 0, .int .i64 0, .int .i64 0, .bool false, .int .u32 0, .int .i64 0, .int .i64 0, .int .i64 0, .int .i64 0, .slice none 0 0, .slice none 0 0, .int .i64 0, .int .i64 0, .int .i64 0, .int .u64 0, .bool false] 39) = z2 at Za Zb Zx Zr Zn ee ⊢
  refine wpList_store_row rfl 39 _ _ rfl (z1.heap.size) p.cells.toArray rfl rfl 39 _ Zn sizeAc (by rfl) (Ac.one p) ?_
  have N_ := setRow_heap z2 (z1.heap.size) _ p.cells.toArray _ _ Zn
  have ee := belowSet (cs := p.cells.toArray) ee Zn (by omega)
  have Za := hpR Za (g' := z1.heap.size) (by omega) p.cells.toArray
  have Zb := hpR Zb (g' := z1.heap.size) (by omega) p.cells.toArray
  have Zx := hpR Zx (g' := z1.heap.size) (by omega) p.cells.toArray
  have Zr := hpR Zr (g' := z1.heap.size) (by omega) p.cells.toArray
  clear Zn
  have Zn := N_
  clear N_
  generalize z2.setRow (z1.heap.size) p.cells.toArray = z3 at Za Zb Zx Zr Zn ee ⊢
  iterate 3 go_step
  go_upto_region 2 with fail
  cases m1 with
  | false =>
    go_upto_region 3 with fail
    refine wp_region_lit ?_
    refine wpList_load_mid rfl 39 _ rfl (w.heap.size) 0 rfl a.cells _ (rowAt Za) Tryd.underlying39 rfl sizeAc ?_
    refine wpList_store_row rfl 39 _ _ rfl (w.heap.size + 1 + 1 + 1) a.cells.toArray rfl rfl 39 _ Zr sizeAc (by rfl) (Ac.one a) ?_
    have N_ := setRow_heap z3 (w.heap.size + 1 + 1 + 1) _ a.cells.toArray _ _ Zr
    have ee := belowSet (cs := a.cells.toArray) ee Zr (by omega)
    have Za := hpR Za (g' := w.heap.size + 1 + 1 + 1) (by omega) a.cells.toArray
    have Zb := hpR Zb (g' := w.heap.size + 1 + 1 + 1) (by omega) a.cells.toArray
    have Zx := hpR Zx (g' := w.heap.size + 1 + 1 + 1) (by omega) a.cells.toArray
    have Zn := hpR Zn (g' := w.heap.size + 1 + 1 + 1) (by omega) a.cells.toArray
    clear Zr
    have Zr := N_
    clear N_
    generalize z3.setRow (w.heap.size + 1 + 1 + 1) a.cells.toArray = z4 at Za Zb Zx Zr Zn ee ⊢
    go_wp2_with fail
    refine bodyPost_ret (v := .tuple #[.agg a.cells.toArray, .int .i64 0]) (res_ct rfl rfl rfl Zr Tryd.underlying39 rfl sizeAc) rfl ⟨rfl, ee⟩
  | true =>
    have h2 : m2 = false := by simpa using hm
    subst h2
    refine wp_region_lit ?_
    iterate 9 go_step
    refine wpList_load_g (by rfl) 37 _ rfl (w.heap.size + 1 + 1) 0 rfl x.cells _ (rowAt Zx) Tryd.underlying37 rfl sizeCm ?_
    go_wp2_with fail
    refine (HF.out z3 ee).mono ?_
    rintro e z4 ⟨rfl, t⟩
    have Za := hpB Za t
    have Zb := hpB Zb t
    have Zx := hpB Zx t
    have Zr := hpB Zr t
    have Zn := hpB Zn t
    have ee := ee.trans (t.mono ee.size)
    clear t
    go_upto_region 3 with fail
    refine wp_region_lit ?_
    refine wpList_load_mid rfl 39 _ rfl (w.heap.size) 0 rfl a.cells _ (rowAt Za) Tryd.underlying39 rfl sizeAc ?_
    refine wpList_store_row rfl 39 _ _ rfl (w.heap.size + 1 + 1 + 1) a.cells.toArray rfl rfl 39 _ Zr sizeAc (by rfl) (Ac.one a) ?_
    have N_ := setRow_heap z4 (w.heap.size + 1 + 1 + 1) _ a.cells.toArray _ _ Zr
    have ee := belowSet (cs := a.cells.toArray) ee Zr (by omega)
    have Za := hpR Za (g' := w.heap.size + 1 + 1 + 1) (by omega) a.cells.toArray
    have Zb := hpR Zb (g' := w.heap.size + 1 + 1 + 1) (by omega) a.cells.toArray
    have Zx := hpR Zx (g' := w.heap.size + 1 + 1 + 1) (by omega) a.cells.toArray
    have Zn := hpR Zn (g' := w.heap.size + 1 + 1 + 1) (by omega) a.cells.toArray
    clear Zr
    have Zr := N_
    clear N_
    generalize z4.setRow (w.heap.size + 1 + 1 + 1) a.cells.toArray = z5 at Za Zb Zx Zr Zn ee ⊢
    go_wp2_with fail
    refine bodyPost_ret (v := .tuple #[.agg a.cells.toArray, .int .i64 0]) (res_ct rfl rfl rfl Zr Tryd.underlying39 rfl sizeAc) rfl ⟨rfl, ee⟩
set_option maxHeartbeats 3200000 in
theorem acc_1 (a p : Ac) (br : Nat) (bn sn : Int) (x : Cm) (m1 m2 : Bool) (w : World)
    (hP : ∀ z, Below w.heap.size w z → Calls Tryd.prog 65 #[.agg a.cells.toArray, .agg #[.int .u32 (br : Int), .int .i64 bn]] z fun e w' => e = .returned (.tuple #[.agg p.cells.toArray, .bool m1]) ∧ Below z.heap.size z w')
    (hF : ∀ z, Below w.heap.size w z → Calls Tryd.prog 28 #[.agg x.cells.toArray] z fun e w' => e = .returned (.bool m2) ∧ Below z.heap.size z w')
    (hm : (m1 && m2) = true) (hs : sn < a.sl) :
    Calls Tryd.prog 24 #[.agg a.cells.toArray, .agg #[.int .u32 (br : Int), .int .i64 bn], .int .i64 sn, .agg x.cells.toArray] w fun e w' => e = .returned (.tuple #[.agg a.cells.toArray, .int .i64 1]) ∧ Below w.heap.size w w' := by
  have HP := Lib.hid hP
  have HF := Lib.hid hF
  clear hP hF
  obtain ⟨w0, hw0⟩ : ∃ w0, w0 = (((w.alloc (.cells a.cells.toArray 39)).alloc (.cells #[.int .u32 (br : Int), .int .i64 bn] 28)).alloc (.cells x.cells.toArray 37)).alloc (.cells #[.int .u32 0, .int .i64 0, .int .i64 0, .bool false, .int .u32 0, .int .i64 0, .int .i64 0, .int .i64 0, .int .i64 0, .slice none 0 0, .slice none 0 0, .int .i64 0, .int .i64 0, .int .i64 0, .int .u64 0, .bool false] 39) := ⟨_, rfl⟩
  have ee : Below w.heap.size w w0 := by rw [hw0]; exact ((((Below.refl _ _).alloc (Nat.le_refl _) _).alloc (by simp) _).alloc (by simp; omega) _).alloc (by simp; omega) _
  have Za : w0.heap[w.heap.size]? = some (.cells a.cells.toArray 39) := by rw [hw0]; exact hpA (hpA (hpA (hpN _ _ rfl) _) _) _
  have Zb : w0.heap[w.heap.size + 1]? = some (.cells [.int .u32 (br : Int), .int .i64 bn].toArray 28) := by rw [hw0]; exact hpA (hpA (hpN _ _ (by simp)) _) _
  have Zx : w0.heap[w.heap.size + 1 + 1]? = some (.cells x.cells.toArray 37) := by rw [hw0]; exact hpA (hpN _ _ (by simp)) _
  have Zr : w0.heap[w.heap.size + 1 + 1 + 1]? = some (.cells #[.int .u32 0, .int .i64 0, .int .i64 0, .bool false, .int .u32 0, .int .i64 0, .int .i64 0, .int .i64 0, .int .i64 0, .slice none 0 0, .slice none 0 0, .int .i64 0, .int .i64 0, .int .i64 0, .int .u64 0, .bool false] 39) := by rw [hw0]; exact hpN _ _ (by simp)
  go_enter Tryd.func24, Tryd.ntmps24
  go_upto_region 1 with fail
  change Code.wp _ _ _ _ ((((w.alloc (.cells a.cells.toArray 39)).alloc (.cells #[.int .u32 (br : Int), .int .i64 bn] 28)).alloc (.cells x.cells.toArray 37)).alloc (.cells #[.int .u32 0, .int .i64 0, .int .i64 0, .bool false, .int .u32 0, .int .i64 0, .int .i64 0, .int .i64 0, .int .i64 0, .slice none 0 0, .slice none 0 0, .int .i64 0, .int .i64 0, .int .i64 0, .int .u64 0, .bool false] 39))
  rw [← hw0]
  clear hw0
  have b0 := rowCell Zb 0 rfl
  have b1 := rowCell Zb 1 rfl
  refine wp_region_lit ?_
  refine wpList_load_mid rfl 39 _ rfl (w.heap.size) 0 rfl a.cells _ (rowAt Za) Tryd.underlying39 rfl sizeAc ?_
  go_wp2_with fail
  refine (HP.out w0 ee).mono ?_
  rintro e z1 ⟨rfl, t⟩
  have Za := hpB Za t
  have Zb := hpB Zb t
  have Zx := hpB Zx t
  have Zr := hpB Zr t
  have ee := ee.trans (t.mono ee.size)
  clear t
  clear b0 b1
  dsimp only
  rename_i hK
  refine hK _ _ ?_
  clear hK
  iterate 12 go_step
  have lZa := (Array.getElem?_eq_some_iff.1 Za).1
  have lZb := (Array.getElem?_eq_some_iff.1 Zb).1
  have lZx := (Array.getElem?_eq_some_iff.1 Zx).1
  have lZr := (Array.getElem?_eq_some_iff.1 Zr).1
  have Za := hpA Za (.cells #[.int .u32 0, .int .i64 0, .int .i64 0, .bool false, .int .u32 0, .int .i64 0, .int .i64 0, .int .i64 0, .int .i64 0, .slice none 0 0, .slice none 0 0, .int .i64 0, .int .i64 0, .int .i64 0, .int .u64 0, .bool false] 39)
  have Zb := hpA Zb (.cells #[.int .u32 0, .int .i64 0, .int .i64 0, .bool false, .int .u32 0, .int .i64 0, .int .i64 0, .int .i64 0, .int .i64 0, .slice none 0 0, .slice none 0 0, .int .i64 0, .int .i64 0, .int .i64 0, .int .u64 0, .bool false] 39)
  have Zx := hpA Zx (.cells #[.int .u32 0, .int .i64 0, .int .i64 0, .bool false, .int .u32 0, .int .i64 0, .int .i64 0, .int .i64 0, .int .i64 0, .slice none 0 0, .slice none 0 0, .int .i64 0, .int .i64 0, .int .i64 0, .int .u64 0, .bool false] 39)
  have Zr := hpA Zr (.cells #[.int .u32 0, .int .i64 0, .int .i64 0, .bool false, .int .u32 0, .int .i64 0, .int .i64 0, .int .i64 0, .int .i64 0, .slice none 0 0, .slice none 0 0, .int .i64 0, .int .i64 0, .int .i64 0, .int .u64 0, .bool false] 39)
  have ee := ee.alloc ee.size (.cells #[.int .u32 0, .int .i64 0, .int .i64 0, .bool false, .int .u32 0, .int .i64 0, .int .i64 0, .int .i64 0, .int .i64 0, .slice none 0 0, .slice none 0 0, .int .i64 0, .int .i64 0, .int .i64 0, .int .u64 0, .bool false] 39)
  have Zn := hpN z1 (.cells #[.int .u32 0, .int .i64 0, .int .i64 0, .bool false, .int .u32 0, .int .i64 0, .int .i64 0, .int .i64 0, .int .i64 0, .slice none 0 0, .slice none 0 0, .int .i64 0, .int .i64 0, .int .i64 0, .int .u64 0, .bool false] 39) rfl
  generalize z1.alloc (.cells #[.int .u32 0, .int .i64 0, .int .i64 0, .bool false, .int .u32 0, .int .i64 0, .int .i64 0, .int .i64 0, .int .i64 0, .slice none 0 0, .slice none 0 0, .int .i64 0, .int .i64 0, .int .i64 0, .int .u64 0, .bool false] 39) = z2 at Za Zb Zx Zr Zn ee ⊢
  refine wpList_store_row rfl 39 _ _ rfl (z1.heap.size) p.cells.toArray rfl rfl 39 _ Zn sizeAc (by rfl) (Ac.one p) ?_
  have N_ := setRow_heap z2 (z1.heap.size) _ p.cells.toArray _ _ Zn
  have ee := belowSet (cs := p.cells.toArray) ee Zn (by omega)
  have Za := hpR Za (g' := z1.heap.size) (by omega) p.cells.toArray
  have Zb := hpR Zb (g' := z1.heap.size) (by omega) p.cells.toArray
  have Zx := hpR Zx (g' := z1.heap.size) (by omega) p.cells.toArray
  have Zr := hpR Zr (g' := z1.heap.size) (by omega) p.cells.toArray
  clear Zn
  have Zn := N_
  clear N_
  generalize z2.setRow (z1.heap.size) p.cells.toArray = z3 at Za Zb Zx Zr Zn ee ⊢
  iterate 3 go_step
  go_upto_region 2 with fail
  obtain ⟨rfl, rfl⟩ : m1 = true ∧ m2 = true := by rw [Bool.and_eq_true] at hm; exact hm
  refine wp_region_lit ?_
  iterate 9 go_step
  refine wpList_load_g (by rfl) 37 _ rfl (w.heap.size + 1 + 1) 0 rfl x.cells _ (rowAt Zx) Tryd.underlying37 rfl sizeCm ?_
  go_wp2_with fail
  refine (HF.out z3 ee).mono ?_
  rintro e z4 ⟨rfl, t⟩
  have Za := hpB Za t
  have Zb := hpB Zb t
  have Zx := hpB Zx t
  have Zr := hpB Zr t
  have Zn := hpB Zn t
  have ee := ee.trans (t.mono ee.size)
  clear t
  have a2 := rowCell Za 2 (v := .int .i64 a.sl) rfl
  have f1 : decide (sn < a.sl) = true := by simpa using hs
  clear hs
  go_upto_region 5 with fail
  refine wp_region_lit ?_
  refine wpList_load_mid rfl 39 _ rfl (w.heap.size) 0 rfl a.cells _ (rowAt Za) Tryd.underlying39 rfl sizeAc ?_
  refine wpList_store_row rfl 39 _ _ rfl (w.heap.size + 1 + 1 + 1) a.cells.toArray rfl rfl 39 _ Zr sizeAc (by rfl) (Ac.one a) ?_
  have N_ := setRow_heap z4 (w.heap.size + 1 + 1 + 1) _ a.cells.toArray _ _ Zr
  have ee := belowSet (cs := a.cells.toArray) ee Zr (by omega)
  have Za := hpR Za (g' := w.heap.size + 1 + 1 + 1) (by omega) a.cells.toArray
  have Zb := hpR Zb (g' := w.heap.size + 1 + 1 + 1) (by omega) a.cells.toArray
  have Zx := hpR Zx (g' := w.heap.size + 1 + 1 + 1) (by omega) a.cells.toArray
  have Zn := hpR Zn (g' := w.heap.size + 1 + 1 + 1) (by omega) a.cells.toArray
  clear Zr
  have Zr := N_
  clear N_
  generalize z4.setRow (w.heap.size + 1 + 1 + 1) a.cells.toArray = z5 at Za Zb Zx Zr Zn ee ⊢
  go_wp2_with fail
  refine bodyPost_ret (v := .tuple #[.agg a.cells.toArray, .int .i64 1]) (res_ct rfl rfl rfl Zr Tryd.underlying39 rfl sizeAc) rfl ⟨rfl, ee⟩
set_option maxHeartbeats 3200000 in
theorem acc_2 (a p : Ac) (br : Nat) (bn sn : Int) (x : Cm) (m1 m2 : Bool) (w : World)
    (hP : ∀ z, Below w.heap.size w z → Calls Tryd.prog 65 #[.agg a.cells.toArray, .agg #[.int .u32 (br : Int), .int .i64 bn]] z fun e w' => e = .returned (.tuple #[.agg p.cells.toArray, .bool m1]) ∧ Below z.heap.size z w')
    (hF : ∀ z, Below w.heap.size w z → Calls Tryd.prog 28 #[.agg x.cells.toArray] z fun e w' => e = .returned (.bool m2) ∧ Below z.heap.size z w')
    (hm : (m1 && m2) = true) (hs : a.sl < sn) :
    Calls Tryd.prog 24 #[.agg a.cells.toArray, .agg #[.int .u32 (br : Int), .int .i64 bn], .int .i64 sn, .agg x.cells.toArray] w fun e w' => e = .returned (.tuple #[.agg a.cells.toArray, .int .i64 2]) ∧ Below w.heap.size w w' := by
  have HP := Lib.hid hP
  have HF := Lib.hid hF
  clear hP hF
  obtain ⟨w0, hw0⟩ : ∃ w0, w0 = (((w.alloc (.cells a.cells.toArray 39)).alloc (.cells #[.int .u32 (br : Int), .int .i64 bn] 28)).alloc (.cells x.cells.toArray 37)).alloc (.cells #[.int .u32 0, .int .i64 0, .int .i64 0, .bool false, .int .u32 0, .int .i64 0, .int .i64 0, .int .i64 0, .int .i64 0, .slice none 0 0, .slice none 0 0, .int .i64 0, .int .i64 0, .int .i64 0, .int .u64 0, .bool false] 39) := ⟨_, rfl⟩
  have ee : Below w.heap.size w w0 := by rw [hw0]; exact ((((Below.refl _ _).alloc (Nat.le_refl _) _).alloc (by simp) _).alloc (by simp; omega) _).alloc (by simp; omega) _
  have Za : w0.heap[w.heap.size]? = some (.cells a.cells.toArray 39) := by rw [hw0]; exact hpA (hpA (hpA (hpN _ _ rfl) _) _) _
  have Zb : w0.heap[w.heap.size + 1]? = some (.cells [.int .u32 (br : Int), .int .i64 bn].toArray 28) := by rw [hw0]; exact hpA (hpA (hpN _ _ (by simp)) _) _
  have Zx : w0.heap[w.heap.size + 1 + 1]? = some (.cells x.cells.toArray 37) := by rw [hw0]; exact hpA (hpN _ _ (by simp)) _
  have Zr : w0.heap[w.heap.size + 1 + 1 + 1]? = some (.cells #[.int .u32 0, .int .i64 0, .int .i64 0, .bool false, .int .u32 0, .int .i64 0, .int .i64 0, .int .i64 0, .int .i64 0, .slice none 0 0, .slice none 0 0, .int .i64 0, .int .i64 0, .int .i64 0, .int .u64 0, .bool false] 39) := by rw [hw0]; exact hpN _ _ (by simp)
  go_enter Tryd.func24, Tryd.ntmps24
  go_upto_region 1 with fail
  change Code.wp _ _ _ _ ((((w.alloc (.cells a.cells.toArray 39)).alloc (.cells #[.int .u32 (br : Int), .int .i64 bn] 28)).alloc (.cells x.cells.toArray 37)).alloc (.cells #[.int .u32 0, .int .i64 0, .int .i64 0, .bool false, .int .u32 0, .int .i64 0, .int .i64 0, .int .i64 0, .int .i64 0, .slice none 0 0, .slice none 0 0, .int .i64 0, .int .i64 0, .int .i64 0, .int .u64 0, .bool false] 39))
  rw [← hw0]
  clear hw0
  have b0 := rowCell Zb 0 rfl
  have b1 := rowCell Zb 1 rfl
  refine wp_region_lit ?_
  refine wpList_load_mid rfl 39 _ rfl (w.heap.size) 0 rfl a.cells _ (rowAt Za) Tryd.underlying39 rfl sizeAc ?_
  go_wp2_with fail
  refine (HP.out w0 ee).mono ?_
  rintro e z1 ⟨rfl, t⟩
  have Za := hpB Za t
  have Zb := hpB Zb t
  have Zx := hpB Zx t
  have Zr := hpB Zr t
  have ee := ee.trans (t.mono ee.size)
  clear t
  clear b0 b1
  dsimp only
  rename_i hK
  refine hK _ _ ?_
  clear hK
  iterate 12 go_step
  have lZa := (Array.getElem?_eq_some_iff.1 Za).1
  have lZb := (Array.getElem?_eq_some_iff.1 Zb).1
  have lZx := (Array.getElem?_eq_some_iff.1 Zx).1
  have lZr := (Array.getElem?_eq_some_iff.1 Zr).1
  have Za := hpA Za (.cells #[.int .u32 0, .int .i64 0, .int .i64 0, .bool false, .int .u32 0, .int .i64 0, .int .i64 0, .int .i64 0, .int .i64 0, .slice none 0 0, .slice none 0 0, .int .i64 0, .int .i64 0, .int .i64 0, .int .u64 0, .bool false] 39)
  have Zb := hpA Zb (.cells #[.int .u32 0, .int .i64 0, .int .i64 0, .bool false, .int .u32 0, .int .i64 0, .int .i64 0, .int .i64 0, .int .i64 0, .slice none 0 0, .slice none 0 0, .int .i64 0, .int .i64 0, .int .i64 0, .int .u64 0, .bool false] 39)
  have Zx := hpA Zx (.cells #[.int .u32 0, .int .i64 0, .int .i64 0, .bool false, .int .u32 0, .int .i64 0, .int .i64 0, .int .i64 0, .int .i64 0, .slice none 0 0, .slice none 0 0, .int .i64 0, .int .i64 0, .int .i64 0, .int .u64 0, .bool false] 39)
  have Zr := hpA Zr (.cells #[.int .u32 0, .int .i64 0, .int .i64 0, .bool false, .int .u32 0, .int .i64 0, .int .i64 0, .int .i64 0, .int .i64 0, .slice none 0 0, .slice none 0 0, .int .i64 0, .int .i64 0, .int .i64 0, .int .u64 0, .bool false] 39)
  have ee := ee.alloc ee.size (.cells #[.int .u32 0, .int .i64 0, .int .i64 0, .bool false, .int .u32 0, .int .i64 0, .int .i64 0, .int .i64 0, .int .i64 0, .slice none 0 0, .slice none 0 0, .int .i64 0, .int .i64 0, .int .i64 0, .int .u64 0, .bool false] 39)
  have Zn := hpN z1 (.cells #[.int .u32 0, .int .i64 0, .int .i64 0, .bool false, .int .u32 0, .int .i64 0, .int .i64 0, .int .i64 0, .int .i64 0, .slice none 0 0, .slice none 0 0, .int .i64 0, .int .i64 0, .int .i64 0, .int .u64 0, .bool false] 39) rfl
  generalize z1.alloc (.cells #[.int .u32 0, .int .i64 0, .int .i64 0, .bool false, .int .u32 0, .int .i64 0, .int .i64 0, .int .i64 0, .int .i64 0, .slice none 0 0, .slice none 0 0, .int .i64 0, .int .i64 0, .int .i64 0, .int .u64 0, .bool false] 39) = z2 at Za Zb Zx Zr Zn ee ⊢
  refine wpList_store_row rfl 39 _ _ rfl (z1.heap.size) p.cells.toArray rfl rfl 39 _ Zn sizeAc (by rfl) (Ac.one p) ?_
  have N_ := setRow_heap z2 (z1.heap.size) _ p.cells.toArray _ _ Zn
  have ee := belowSet (cs := p.cells.toArray) ee Zn (by omega)
  have Za := hpR Za (g' := z1.heap.size) (by omega) p.cells.toArray
  have Zb := hpR Zb (g' := z1.heap.size) (by omega) p.cells.toArray
  have Zx := hpR Zx (g' := z1.heap.size) (by omega) p.cells.toArray
  have Zr := hpR Zr (g' := z1.heap.size) (by omega) p.cells.toArray
  clear Zn
  have Zn := N_
  clear N_
  generalize z2.setRow (z1.heap.size) p.cells.toArray = z3 at Za Zb Zx Zr Zn ee ⊢
  iterate 3 go_step
  go_upto_region 2 with fail
  obtain ⟨rfl, rfl⟩ : m1 = true ∧ m2 = true := by rw [Bool.and_eq_true] at hm; exact hm
  refine wp_region_lit ?_
  iterate 9 go_step
  refine wpList_load_g (by rfl) 37 _ rfl (w.heap.size + 1 + 1) 0 rfl x.cells _ (rowAt Zx) Tryd.underlying37 rfl sizeCm ?_
  go_wp2_with fail
  refine (HF.out z3 ee).mono ?_
  rintro e z4 ⟨rfl, t⟩
  have Za := hpB Za t
  have Zb := hpB Zb t
  have Zx := hpB Zx t
  have Zr := hpB Zr t
  have Zn := hpB Zn t
  have ee := ee.trans (t.mono ee.size)
  clear t
  have a2 := rowCell Za 2 (v := .int .i64 a.sl) rfl
  have f1 : decide (sn < a.sl) = false := by simp; omega
  have f2 : decide (a.sl < sn) = true := by simpa using hs
  clear hs
  go_upto_region 7 with fail
  refine wp_region_lit ?_
  refine wpList_load_mid rfl 39 _ rfl (w.heap.size) 0 rfl a.cells _ (rowAt Za) Tryd.underlying39 rfl sizeAc ?_
  refine wpList_store_row rfl 39 _ _ rfl (w.heap.size + 1 + 1 + 1) a.cells.toArray rfl rfl 39 _ Zr sizeAc (by rfl) (Ac.one a) ?_
  have N_ := setRow_heap z4 (w.heap.size + 1 + 1 + 1) _ a.cells.toArray _ _ Zr
  have ee := belowSet (cs := a.cells.toArray) ee Zr (by omega)
  have Za := hpR Za (g' := w.heap.size + 1 + 1 + 1) (by omega) a.cells.toArray
  have Zb := hpR Zb (g' := w.heap.size + 1 + 1 + 1) (by omega) a.cells.toArray
  have Zx := hpR Zx (g' := w.heap.size + 1 + 1 + 1) (by omega) a.cells.toArray
  have Zn := hpR Zn (g' := w.heap.size + 1 + 1 + 1) (by omega) a.cells.toArray
  clear Zr
  have Zr := N_
  clear N_
  generalize z4.setRow (w.heap.size + 1 + 1 + 1) a.cells.toArray = z5 at Za Zb Zx Zr Zn ee ⊢
  go_wp2_with fail
  refine bodyPost_ret (v := .tuple #[.agg a.cells.toArray, .int .i64 2]) (res_ct rfl rfl rfl Zr Tryd.underlying39 rfl sizeAc) rfl ⟨rfl, ee⟩
set_option maxHeartbeats 3200000 in
theorem acc_3 (a p : Ac) (br : Nat) (bn sn : Int) (x : Cm) (m1 m2 : Bool) (w : World)
    (hP : ∀ z, Below w.heap.size w z → Calls Tryd.prog 65 #[.agg a.cells.toArray, .agg #[.int .u32 (br : Int), .int .i64 bn]] z fun e w' => e = .returned (.tuple #[.agg p.cells.toArray, .bool m1]) ∧ Below z.heap.size z w')
    (hF : ∀ z, Below w.heap.size w z → Calls Tryd.prog 28 #[.agg x.cells.toArray] z fun e w' => e = .returned (.bool m2) ∧ Below z.heap.size z w')
    (hm : (m1 && m2) = true) (hs : sn = a.sl) :
    Calls Tryd.prog 24 #[.agg a.cells.toArray, .agg #[.int .u32 (br : Int), .int .i64 bn], .int .i64 sn, .agg x.cells.toArray] w fun e w' => e = .returned (.tuple #[.agg (T.Ac.cells ⟨p.pr, p.pn, p.sl, true, br, bn, x⟩).toArray, .int .i64 3]) ∧ Below w.heap.size w w' := by
  have HP := Lib.hid hP
  have HF := Lib.hid hF
  clear hP hF
  obtain ⟨w0, hw0⟩ : ∃ w0, w0 = (((w.alloc (.cells a.cells.toArray 39)).alloc (.cells #[.int .u32 (br : Int), .int .i64 bn] 28)).alloc (.cells x.cells.toArray 37)).alloc (.cells #[.int .u32 0, .int .i64 0, .int .i64 0, .bool false, .int .u32 0, .int .i64 0, .int .i64 0, .int .i64 0, .int .i64 0, .slice none 0 0, .slice none 0 0, .int .i64 0, .int .i64 0, .int .i64 0, .int .u64 0, .bool false] 39) := ⟨_, rfl⟩
  have ee : Below w.heap.size w w0 := by rw [hw0]; exact ((((Below.refl _ _).alloc (Nat.le_refl _) _).alloc (by simp) _).alloc (by simp; omega) _).alloc (by simp; omega) _
  have Za : w0.heap[w.heap.size]? = some (.cells a.cells.toArray 39) := by rw [hw0]; exact hpA (hpA (hpA (hpN _ _ rfl) _) _) _
  have Zb : w0.heap[w.heap.size + 1]? = some (.cells [.int .u32 (br : Int), .int .i64 bn].toArray 28) := by rw [hw0]; exact hpA (hpA (hpN _ _ (by simp)) _) _
  have Zx : w0.heap[w.heap.size + 1 + 1]? = some (.cells x.cells.toArray 37) := by rw [hw0]; exact hpA (hpN _ _ (by simp)) _
  have Zr : w0.heap[w.heap.size + 1 + 1 + 1]? = some (.cells #[.int .u32 0, .int .i64 0, .int .i64 0, .bool false, .int .u32 0, .int .i64 0, .int .i64 0, .int .i64 0, .int .i64 0, .slice none 0 0, .slice none 0 0, .int .i64 0, .int .i64 0, .int .i64 0, .int .u64 0, .bool false] 39) := by rw [hw0]; exact hpN _ _ (by simp)
  go_enter Tryd.func24, Tryd.ntmps24
  go_upto_region 1 with fail
  change Code.wp _ _ _ _ ((((w.alloc (.cells a.cells.toArray 39)).alloc (.cells #[.int .u32 (br : Int), .int .i64 bn] 28)).alloc (.cells x.cells.toArray 37)).alloc (.cells #[.int .u32 0, .int .i64 0, .int .i64 0, .bool false, .int .u32 0, .int .i64 0, .int .i64 0, .int .i64 0, .int .i64 0, .slice none 0 0, .slice none 0 0, .int .i64 0, .int .i64 0, .int .i64 0, .int .u64 0, .bool false] 39))
  rw [← hw0]
  clear hw0
  have b0 := rowCell Zb 0 rfl
  have b1 := rowCell Zb 1 rfl
  refine wp_region_lit ?_
  refine wpList_load_mid rfl 39 _ rfl (w.heap.size) 0 rfl a.cells _ (rowAt Za) Tryd.underlying39 rfl sizeAc ?_
  go_wp2_with fail
  refine (HP.out w0 ee).mono ?_
  rintro e z1 ⟨rfl, t⟩
  have Za := hpB Za t
  have Zb := hpB Zb t
  have Zx := hpB Zx t
  have Zr := hpB Zr t
  have ee := ee.trans (t.mono ee.size)
  clear t
  clear b0 b1
  dsimp only
  rename_i hK
  refine hK _ _ ?_
  clear hK
  iterate 12 go_step
  have lZa := (Array.getElem?_eq_some_iff.1 Za).1
  have lZb := (Array.getElem?_eq_some_iff.1 Zb).1
  have lZx := (Array.getElem?_eq_some_iff.1 Zx).1
  have lZr := (Array.getElem?_eq_some_iff.1 Zr).1
  have Za := hpA Za (.cells #[.int .u32 0, .int .i64 0, .int .i64 0, .bool false, .int .u32 0, .int .i64 0, .int .i64 0, .int .i64 0, .int .i64 0, .slice none 0 0, .slice none 0 0, .int .i64 0, .int .i64 0, .int .i64 0, .int .u64 0, .bool false] 39)
  have Zb := hpA Zb (.cells #[.int .u32 0, .int .i64 0, .int .i64 0, .bool false, .int .u32 0, .int .i64 0, .int .i64 0, .int .i64 0, .int .i64 0, .slice none 0 0, .slice none 0 0, .int .i64 0, .int .i64 0, .int .i64 0, .int .u64 0, .bool false] 39)
  have Zx := hpA Zx (.cells #[.int .u32 0, .int .i64 0, .int .i64 0, .bool false, .int .u32 0, .int .i64 0, .int .i64 0, .int .i64 0, .int .i64 0, .slice none 0 0, .slice none 0 0, .int .i64 0, .int .i64 0, .int .i64 0, .int .u64 0, .bool false] 39)
  have Zr := hpA Zr (.cells #[.int .u32 0, .int .i64 0, .int .i64 0, .bool false, .int .u32 0, .int .i64 0, .int .i64 0, .int .i64 0, .int .i64 0, .slice none 0 0, .slice none 0 0, .int .i64 0, .int .i64 0, .int .i64 0, .int .u64 0, .bool false] 39)
  have ee := ee.alloc ee.size (.cells #[.int .u32 0, .int .i64 0, .int .i64 0, .bool false, .int .u32 0, .int .i64 0, .int .i64 0, .int .i64 0, .int .i64 0, .slice none 0 0, .slice none 0 0, .int .i64 0, .int .i64 0, .int .i64 0, .int .u64 0, .bool false] 39)
  have Zn := hpN z1 (.cells #[.int .u32 0, .int .i64 0, .int .i64 0, .bool false, .int .u32 0, .int .i64 0, .int .i64 0, .int .i64 0, .int .i64 0, .slice none 0 0, .slice none 0 0, .int .i64 0, .int .i64 0, .int .i64 0, .int .u64 0, .bool false] 39) rfl
  generalize z1.alloc (.cells #[.int .u32 0, .int .i64 0, .int .i64 0, .bool false, .int .u32 0, .int .i64 0, .int .i64 0, .int .i64 0, .int .i64 0, .slice none 0 0, .slice none 0 0, .int .i64 0, .int .i64 0, .int .i64 0, .int .u64 0, .bool false] 39) = z2 at Za Zb Zx Zr Zn ee ⊢
  refine wpList_store_row rfl 39 _ _ rfl (z1.heap.size) p.cells.toArray rfl rfl 39 _ Zn sizeAc (by rfl) (Ac.one p) ?_
  have N_ := setRow_heap z2 (z1.heap.size) _ p.cells.toArray _ _ Zn
  have ee := belowSet (cs := p.cells.toArray) ee Zn (by omega)
  have Za := hpR Za (g' := z1.heap.size) (by omega) p.cells.toArray
  have Zb := hpR Zb (g' := z1.heap.size) (by omega) p.cells.toArray
  have Zx := hpR Zx (g' := z1.heap.size) (by omega) p.cells.toArray
  have Zr := hpR Zr (g' := z1.heap.size) (by omega) p.cells.toArray
  clear Zn
  have Zn := N_
  clear N_
  generalize z2.setRow (z1.heap.size) p.cells.toArray = z3 at Za Zb Zx Zr Zn ee ⊢
  iterate 3 go_step
  go_upto_region 2 with fail
  obtain ⟨rfl, rfl⟩ : m1 = true ∧ m2 = true := by rw [Bool.and_eq_true] at hm; exact hm
  refine wp_region_lit ?_
  iterate 9 go_step
  refine wpList_load_g (by rfl) 37 _ rfl (w.heap.size + 1 + 1) 0 rfl x.cells _ (rowAt Zx) Tryd.underlying37 rfl sizeCm ?_
  go_wp2_with fail
  refine (HF.out z3 ee).mono ?_
  rintro e z4 ⟨rfl, t⟩
  have Za := hpB Za t
  have Zb := hpB Zb t
  have Zx := hpB Zx t
  have Zr := hpB Zr t
  have Zn := hpB Zn t
  have ee := ee.trans (t.mono ee.size)
  clear t
  have a2 := rowCell Za 2 (v := .int .i64 a.sl) rfl
  have f1 : decide (sn < a.sl) = false := by simp; omega
  have f2 : decide (a.sl < sn) = false := by simp; omega
  clear hs
  go_upto_region 8 with fail
  clear a2 f1 f2
  refine wp_region_held_drew (S := fun z' => z'.rangeAt (w.heap.size + 1) 0 [.int .u32 (br : Int), .int .i64 bn] ∧ z'.rangeAt (w.heap.size + 1 + 1) 0 x.cells) (by kernel_rfl) ⟨rowAt Zb, rowAt Zx⟩ (fun hH => ?_)
  clear hH
  have Za : z4.drew.heap[w.heap.size]? = some (.cells a.cells.toArray 39) := Za
  have Zb : z4.drew.heap[w.heap.size + 1]? = some (.cells [.int .u32 (br : Int), .int .i64 bn].toArray 28) := Zb
  have Zx : z4.drew.heap[w.heap.size + 1 + 1]? = some (.cells x.cells.toArray 37) := Zx
  have Zr : z4.drew.heap[w.heap.size + 1 + 1 + 1]? = some (.cells #[.int .u32 0, .int .i64 0, .int .i64 0, .bool false, .int .u32 0, .int .i64 0, .int .i64 0, .int .i64 0, .int .i64 0, .slice none 0 0, .slice none 0 0, .int .i64 0, .int .i64 0, .int .i64 0, .int .u64 0, .bool false] 39) := Zr
  have Zn : z4.drew.heap[z1.heap.size]? = some (.cells p.cells.toArray 39) := Zn
  have ee := belowDrewS ee
  generalize z4.drew = z5 at Za Zb Zx Zr Zn ee ⊢
  refine wpAnyH_take (i := 0) (v := .agg ([.int .u32 (br : Int), .int .i64 bn]).toArray) rfl (by kernel_rfl) (by kernel_rfl) (by kernel_rfl) (fun _ _ _ h => h) (yieldsIf_load_mid (by rfl) 28 _ rfl (w.heap.size + 1) 0 rfl ([.int .u32 (br : Int), .int .i64 bn]) _ (fun _ h => h.1) Tryd.underlying28 rfl sizeBal) ⟨rowAt Zb, rowAt Zx⟩ ?_
  try simp only [Act.put, List.setIfInBounds_toArray, List.set_cons_zero, List.set_cons_succ]
  refine wpAnyH_take (i := 1) (v := .agg (x.cells).toArray) rfl (by kernel_rfl) (by kernel_rfl) (by kernel_rfl) (fun _ _ _ h => h) (yieldsIf_load_mid (by rfl) 37 _ rfl (w.heap.size + 1 + 1) 0 rfl (x.cells) _ (fun _ h => h.2) Tryd.underlying37 rfl sizeCm) ⟨rowAt Zb, rowAt Zx⟩ ?_
  try simp only [Act.put, List.setIfInBounds_toArray, List.set_cons_zero, List.set_cons_succ]
  refine wpAnyH_take (i := 2) (v := .pointer (some ⟨z1.heap.size, 3, none⟩)) rfl (by kernel_rfl) (by kernel_rfl) (by kernel_rfl) (fun _ _ _ h => h) (Or.inl ⟨by rfl, fun w_ hS_ => by (first | (go_simp; done) | (go_simp; rfl))⟩) ⟨rowAt Zb, rowAt Zx⟩ ?_
  try simp only [Act.put, List.setIfInBounds_toArray, List.set_cons_zero, List.set_cons_succ]
  refine wpAnyH_ready (rs := [3]) (by kernel_rfl) (by simp) ?_
  refine AllReadyH.cons rfl (fun K hK => ?_) AllReadyH.nil
  rw [if_pos (by rfl)]
  have f_ : z5.frozen? ⟨z1.heap.size, 3, none⟩ = false := freeAt Zn 3
  have c_ := rowCell Zn 3 rfl
  go_simp
  clear f_ c_
  have N_ : (z5.setCells (z1.heap.size) 3 ([.bool true])).heap[z1.heap.size]? = some (.cells (T.Ac.cells ⟨p.pr, p.pn, p.sl, true, p.vr, p.vn, p.c⟩).toArray 39) := hpC ([.bool true]) 3 _ z5 Zn
  have ee := belowC (g := z1.heap.size) (by omega) ([.bool true]) 3 z5 ee
  have Za := hpCo (g' := z1.heap.size) (by omega) ([.bool true]) 3 z5 Za
  have Zb := hpCo (g' := z1.heap.size) (by omega) ([.bool true]) 3 z5 Zb
  have Zx := hpCo (g' := z1.heap.size) (by omega) ([.bool true]) 3 z5 Zx
  have Zr := hpCo (g' := z1.heap.size) (by omega) ([.bool true]) 3 z5 Zr
  clear Zn
  have Zn := N_
  clear N_
  change K _ (z5.setCells (z1.heap.size) 3 [.bool true])
  generalize z5.setCells (z1.heap.size) 3 [.bool true] = z6 at Za Zb Zx Zr Zn ee ⊢
  refine hK.out _ _ ⟨rowAt Zb, rowAt Zx⟩ (fun hH => ?_)
  clear hK K hH
  try simp only [Act.put, List.setIfInBounds_toArray, List.set_cons_zero, List.set_cons_succ]
  refine wpAnyH_take (i := 4) (v := .pointer (some ⟨z1.heap.size, 4, none⟩)) rfl (by kernel_rfl) (by kernel_rfl) (by kernel_rfl) (fun _ _ _ h => h) (Or.inl ⟨by rfl, fun w_ hS_ => by (first | (go_simp; done) | (go_simp; rfl))⟩) ⟨rowAt Zb, rowAt Zx⟩ ?_
  try simp only [Act.put, List.setIfInBounds_toArray, List.set_cons_zero, List.set_cons_succ]
  refine wpAnyH_ready (rs := [5]) (by kernel_rfl) (by simp) ?_
  refine AllReadyH.cons rfl (fun K hK => ?_) AllReadyH.nil
  rw [if_pos (by rfl)]
  refine wp_store_mid 28 _ _ rfl (z1.heap.size) 4 ([.int .u32 (br : Int), .int .i64 bn]).toArray rfl rfl (rowThere Zn (by simp [T.Ac.cells, T.Cm.cells])) sizeBal (by simp [Value.oneCell']) ?_
  have N_ : (z6.setCells (z1.heap.size) 4 ([.int .u32 (br : Int), .int .i64 bn])).heap[z1.heap.size]? = some (.cells (T.Ac.cells ⟨p.pr, p.pn, p.sl, true, br, bn, p.c⟩).toArray 39) := hpC ([.int .u32 (br : Int), .int .i64 bn]) 4 _ z6 Zn
  have ee := belowC (g := z1.heap.size) (by omega) ([.int .u32 (br : Int), .int .i64 bn]) 4 z6 ee
  have Za := hpCo (g' := z1.heap.size) (by omega) ([.int .u32 (br : Int), .int .i64 bn]) 4 z6 Za
  have Zb := hpCo (g' := z1.heap.size) (by omega) ([.int .u32 (br : Int), .int .i64 bn]) 4 z6 Zb
  have Zx := hpCo (g' := z1.heap.size) (by omega) ([.int .u32 (br : Int), .int .i64 bn]) 4 z6 Zx
  have Zr := hpCo (g' := z1.heap.size) (by omega) ([.int .u32 (br : Int), .int .i64 bn]) 4 z6 Zr
  clear Zn
  have Zn := N_
  clear N_
  change K _ (z6.setCells (z1.heap.size) 4 ([.int .u32 (br : Int), .int .i64 bn]))
  generalize z6.setCells (z1.heap.size) 4 ([.int .u32 (br : Int), .int .i64 bn]) = z7 at Za Zb Zx Zr Zn ee ⊢
  refine hK.out _ _ ⟨rowAt Zb, rowAt Zx⟩ (fun hH => ?_)
  clear hK K hH
  try simp only [Act.put, List.setIfInBounds_toArray, List.set_cons_zero, List.set_cons_succ]
  refine wpAnyH_take (i := 6) (v := .pointer (some ⟨z1.heap.size, 6, none⟩)) rfl (by kernel_rfl) (by kernel_rfl) (by kernel_rfl) (fun _ _ _ h => h) (Or.inl ⟨by rfl, fun w_ hS_ => by (first | (go_simp; done) | (go_simp; rfl))⟩) ⟨rowAt Zb, rowAt Zx⟩ ?_
  try simp only [Act.put, List.setIfInBounds_toArray, List.set_cons_zero, List.set_cons_succ]
  refine wpAnyH_ready (rs := [7]) (by kernel_rfl) (by simp) ?_
  refine AllReadyH.cons rfl (fun K hK => ?_) AllReadyH.nil
  rw [if_pos (by rfl)]
  refine wp_store_mid 37 _ _ rfl (z1.heap.size) 6 (x.cells).toArray rfl rfl (rowThere Zn (by simp [T.Ac.cells, T.Cm.cells])) sizeCm (Cm.one x) ?_
  have N_ : (z7.setCells (z1.heap.size) 6 (x.cells)).heap[z1.heap.size]? = some (.cells (T.Ac.cells ⟨p.pr, p.pn, p.sl, true, br, bn, x⟩).toArray 39) := hpC (x.cells) 6 _ z7 Zn
  have ee := belowC (g := z1.heap.size) (by omega) (x.cells) 6 z7 ee
  have Za := hpCo (g' := z1.heap.size) (by omega) (x.cells) 6 z7 Za
  have Zb := hpCo (g' := z1.heap.size) (by omega) (x.cells) 6 z7 Zb
  have Zx := hpCo (g' := z1.heap.size) (by omega) (x.cells) 6 z7 Zx
  have Zr := hpCo (g' := z1.heap.size) (by omega) (x.cells) 6 z7 Zr
  clear Zn
  have Zn := N_
  clear N_
  change K _ (z7.setCells (z1.heap.size) 6 (x.cells))
  generalize z7.setCells (z1.heap.size) 6 (x.cells) = z8 at Za Zb Zx Zr Zn ee ⊢
  refine hK.out _ _ ⟨rowAt Zb, rowAt Zx⟩ (fun hH => ?_)
  clear hK K hH
  try simp only [Act.put, List.setIfInBounds_toArray, List.set_cons_zero, List.set_cons_succ]
  refine wpAnyH_done (by kernel_rfl) ?_ _
  go_upto_region 9 with fail
  refine wp_region_lit ?_
  refine wpList_load_mid rfl 39 _ rfl (z1.heap.size) 0 rfl (T.Ac.cells ⟨p.pr, p.pn, p.sl, true, br, bn, x⟩) _ (rowAt Zn) Tryd.underlying39 rfl sizeAc ?_
  refine wpList_store_row rfl 39 _ _ rfl (w.heap.size + 1 + 1 + 1) (T.Ac.cells ⟨p.pr, p.pn, p.sl, true, br, bn, x⟩).toArray rfl rfl 39 _ Zr sizeAc (by rfl) (Ac.one _) ?_
  have N_ := setRow_heap z8 (w.heap.size + 1 + 1 + 1) _ (T.Ac.cells ⟨p.pr, p.pn, p.sl, true, br, bn, x⟩).toArray _ _ Zr
  have ee := belowSet (cs := (T.Ac.cells ⟨p.pr, p.pn, p.sl, true, br, bn, x⟩).toArray) ee Zr (by omega)
  have Za := hpR Za (g' := w.heap.size + 1 + 1 + 1) (by omega) (T.Ac.cells ⟨p.pr, p.pn, p.sl, true, br, bn, x⟩).toArray
  have Zb := hpR Zb (g' := w.heap.size + 1 + 1 + 1) (by omega) (T.Ac.cells ⟨p.pr, p.pn, p.sl, true, br, bn, x⟩).toArray
  have Zx := hpR Zx (g' := w.heap.size + 1 + 1 + 1) (by omega) (T.Ac.cells ⟨p.pr, p.pn, p.sl, true, br, bn, x⟩).toArray
  have Zn := hpR Zn (g' := w.heap.size + 1 + 1 + 1) (by omega) (T.Ac.cells ⟨p.pr, p.pn, p.sl, true, br, bn, x⟩).toArray
  clear Zr
  have Zr := N_
  clear N_
  generalize z8.setRow (w.heap.size + 1 + 1 + 1) (T.Ac.cells ⟨p.pr, p.pn, p.sl, true, br, bn, x⟩).toArray = z9 at Za Zb Zx Zr Zn ee ⊢
  go_wp2_with fail
  refine bodyPost_ret (v := .tuple #[.agg (T.Ac.cells ⟨p.pr, p.pn, p.sl, true, br, bn, x⟩).toArray, .int .i64 3]) (res_ct rfl rfl rfl Zr Tryd.underlying39 rfl sizeAc) rfl ⟨rfl, ee⟩
end Go.Proofs.YtbahooohkigcnaaDoor
