/- The contract of accept.Accept, what an Op is and does, and the walk of parishlaw18.act. Conditions: what lies, lies below; the tables lie. (Printed by gen_acch.py.) -/
import Derived.Test.YtbahooohkigcnaaDoorAccM
import Derived.Test.YtbahooohkigcnaaDoorAccG
namespace Go.Proofs.YtbahooohkigcnaaDoor
set_option maxRecDepth 20000
open Go.RowKit T
set_option linter.unusedSimpArgs false
set_option linter.unusedVariables false

theorem c_vote (a : Ac) (br : Nat) (bn sn : Int) (x : Cm) (w : World) (B0 : Nat) (hB : B0 ≤ w.heap.size) (ok : CmOk w B0 a.c) (okx : CmOk w B0 x) (hT : Tabs w) :
    Calls Tryd.prog 24 #[.agg a.cells.toArray, .agg #[.int .u32 (br : Int), .int .i64 bn], .int .i64 sn, .agg x.cells.toArray] w fun e w' => e = .returned (.tuple #[.agg (a.vote br bn sn x).cells.toArray, .int .i64 (a.how br bn sn x)]) ∧ Below w.heap.size w w' := by
  have HP := fun z (hz : Below w.heap.size w z) => c_prep a br bn z B0 (Nat.le_trans hB hz.size) (ok.below hz hB) (hT.below hz)
  have HF := fun z (hz : Below w.heap.size w z) => c_cformed x z B0 (Nat.le_trans hB hz.size) (okx.below hz hB) (hT.below hz)
  cases hm : (a.may br bn && x.formed) with
  | false =>
    have hh : a.how br bn sn x = 0 := by unfold Ac.how; rw [hm]; rfl
    exact (acc_0 a _ br bn sn x _ _ w HP HF hm).mono fun e w' h => ⟨by rw [h.1]; simp only [Ac.vote, hh]; rfl, h.2⟩
  | true =>
    by_cases h1 : sn < a.sl
    · have hh : a.how br bn sn x = 1 := by unfold Ac.how; rw [hm, decide_eq_true h1]; rfl
      exact (acc_1 a _ br bn sn x _ _ w HP HF hm h1).mono fun e w' h => ⟨by rw [h.1]; simp only [Ac.vote, hh]; rfl, h.2⟩
    · by_cases h2 : a.sl < sn
      · have hh : a.how br bn sn x = 2 := by unfold Ac.how; rw [hm, decide_eq_false h1, decide_eq_true h2]; rfl
        exact (acc_2 a _ br bn sn x _ _ w HP HF hm h2).mono fun e w' h => ⟨by rw [h.1]; simp only [Ac.vote, hh]; rfl, h.2⟩
      · have hh : a.how br bn sn x = 3 := by unfold Ac.how; rw [hm, decide_eq_false h1, decide_eq_false h2]; rfl
        have hs : sn = a.sl := by omega
        have hy : a.may br bn = true := by rw [Bool.and_eq_true] at hm; exact hm.1
        refine (acc_3 a _ br bn sn x _ _ w HP HF hm hs).mono fun e w' h => ⟨?_, h.2⟩
        rw [h.1]
        simp only [Ac.vote, hh, Ac.prep, hy, cond_true]
        rw [← hs]; rfl

namespace T
/-- what is done -/
structure AOp where
  k : Int
  br : Nat
  bn : Int
  sn : Int
  x : Cm
def AOp.cells (o : AOp) : List Value := [.int .i64 o.k, .int .u32 (o.br : Int), .int .i64 o.bn, .int .i64 o.sn] ++ o.x.cells
theorem AOp.one (o : AOp) : o.cells.toArray.all (·.oneCell') = true := by simp [AOp.cells, Cm.cells, Value.oneCell']
theorem AOp.part (o : AOp) : ∀ j v, o.x.cells[j]? = some v → o.cells[4 + j]? = some v := fun j v h => by
  unfold AOp.cells
  rw [List.getElem?_append_right (by simp)]
  simpa using h
/-- what it makes of an acceptor -/
def Ac.step (a : Ac) (o : AOp) : Ac :=
  if o.k = 1 then a.prep o.br o.bn else if o.k = 2 then a.vote o.br o.bn o.sn o.x else if o.k = 3 then a.learn o.sn else a
end T
theorem Ac.step_ok {w : World} {B : Nat} {a : Ac} (h : CmOk w B a.c) {o : AOp} (ho : CmOk w B o.x) : CmOk w B (a.step o).c := by
  unfold Ac.step
  split
  · exact Ac.prep_ok h _ _
  · split
    · exact Ac.vote_ok h _ _ _ ho
    · split
      · exact Ac.learn_ok h _
      · exact h
theorem Ac.step_formed {a : Ac} (h : a.formed = true) (o : AOp) : (a.step o).formed = true := by
  unfold Ac.step
  split
  · exact Ac.prep_formed h _ _
  · split
    · exact Ac.vote_formed h _ _ _ _
    · split
      · exact Ac.learn_formed h _
      · exact h
theorem Ac.step_keeps (a : Ac) (o : AOp) : B.less (a.step o).pr (a.step o).pn a.pr a.pn = false ∧ a.sl ≤ (a.step o).sl := by
  unfold Ac.step
  split
  · exact Ac.prep_keeps a _ _
  · split
    · exact Ac.vote_keeps a _ _ _ _
    · split
      · exact Ac.learn_keeps a _
      · exact ⟨B.less_self _ _, Int.le_refl _⟩
theorem sizeBal' : (Tryd.prog.info? 28).map (·.size) = some 2 := by kernel_rfl
theorem sizeOp : (Tryd.prog.info? 53).map (·.size) = some 14 := by kernel_rfl
set_option maxHeartbeats 3200000 in
theorem act_1 (a : Ac) (o : AOp) (w : World) (B0 : Nat) (hB : B0 ≤ w.heap.size) (ok : CmOk w B0 a.c) (okx : CmOk w B0 o.x) (hT : Tabs w) (hk : o.k = 1) :
    Calls Tryd.prog 18 #[.agg a.cells.toArray, .agg a.cells.toArray, .agg o.cells.toArray] w fun e w' => e = .returned (.tuple #[.agg (a.prep o.br o.bn).cells.toArray, .agg (a.prep o.br o.bn).cells.toArray, .bool true]) ∧ Below w.heap.size w w' := by
  have HP := Lib.hid (fun z (hz : Below w.heap.size w z) => c_prep a o.br o.bn z B0 (Nat.le_trans hB hz.size) (ok.below hz hB) (hT.below hz))
  have HR := Lib.hid (fun z (hz : Below w.heap.size w z) => cr_prep a o.br o.bn z B0 (Nat.le_trans hB hz.size) (ok.below hz hB))
  clear ok okx hT
  obtain ⟨w0, hw0⟩ : ∃ w0, w0 = ((((w.alloc (.cells a.cells.toArray 39)).alloc (.cells a.cells.toArray 43)).alloc (.cells o.cells.toArray 53)).alloc (.cells #[.int .u32 0, .int .i64 0, .int .i64 0, .bool false, .int .u32 0, .int .i64 0, .int .i64 0, .int .i64 0, .int .i64 0, .slice none 0 0, .slice none 0 0, .int .i64 0, .int .i64 0, .int .i64 0, .int .u64 0, .bool false] 39)).alloc (.cells #[.int .u32 0, .int .i64 0, .int .i64 0, .bool false, .int .u32 0, .int .i64 0, .int .i64 0, .int .i64 0, .int .i64 0, .slice none 0 0, .slice none 0 0, .int .i64 0, .int .i64 0, .int .i64 0, .int .u64 0, .bool false] 43) := ⟨_, rfl⟩
  have ee : Below w.heap.size w w0 := by rw [hw0]; exact (((((Below.refl _ _).alloc (Nat.le_refl _) _).alloc (by simp) _).alloc (by simp; omega) _).alloc (by simp; omega) _).alloc (by simp; omega) _
  have Za : w0.heap[w.heap.size]? = some (.cells a.cells.toArray 39) := by rw [hw0]; exact hpA (hpA (hpA (hpA (hpN _ _ rfl) _) _) _) _
  have Zb : w0.heap[w.heap.size + 1]? = some (.cells a.cells.toArray 43) := by rw [hw0]; exact hpA (hpA (hpA (hpN _ _ (by simp)) _) _) _
  have Zo : w0.heap[w.heap.size + 1 + 1]? = some (.cells o.cells.toArray 53) := by rw [hw0]; exact hpA (hpA (hpN _ _ (by simp)) _) _
  have Zr : w0.heap[w.heap.size + 1 + 1 + 1]? = some (.cells #[.int .u32 0, .int .i64 0, .int .i64 0, .bool false, .int .u32 0, .int .i64 0, .int .i64 0, .int .i64 0, .int .i64 0, .slice none 0 0, .slice none 0 0, .int .i64 0, .int .i64 0, .int .i64 0, .int .u64 0, .bool false] 39) := by rw [hw0]; exact hpA (hpN _ _ (by simp)) _
  have Zs : w0.heap[w.heap.size + 1 + 1 + 1 + 1]? = some (.cells #[.int .u32 0, .int .i64 0, .int .i64 0, .bool false, .int .u32 0, .int .i64 0, .int .i64 0, .int .i64 0, .int .i64 0, .slice none 0 0, .slice none 0 0, .int .i64 0, .int .i64 0, .int .i64 0, .int .u64 0, .bool false] 43) := by rw [hw0]; exact hpN _ _ (by simp)
  go_enter Tryd.func18, Tryd.ntmps18
  go_upto_region 1 with fail
  change Code.wp _ _ _ _ (((((w.alloc (.cells a.cells.toArray 39)).alloc (.cells a.cells.toArray 43)).alloc (.cells o.cells.toArray 53)).alloc (.cells #[.int .u32 0, .int .i64 0, .int .i64 0, .bool false, .int .u32 0, .int .i64 0, .int .i64 0, .int .i64 0, .int .i64 0, .slice none 0 0, .slice none 0 0, .int .i64 0, .int .i64 0, .int .i64 0, .int .u64 0, .bool false] 39)).alloc (.cells #[.int .u32 0, .int .i64 0, .int .i64 0, .bool false, .int .u32 0, .int .i64 0, .int .i64 0, .int .i64 0, .int .i64 0, .slice none 0 0, .slice none 0 0, .int .i64 0, .int .i64 0, .int .i64 0, .int .u64 0, .bool false] 43))
  rw [← hw0]
  clear hw0
  have f1 : (o.k == 1) = true := by simpa using hk
  clear hk
  have k0 := rowCell Zo 0 (v := .int .i64 o.k) rfl
  go_upto_region 3 with fail
  clear k0
  have k0 := rowCell Zo 0 (v := .int .i64 o.k) rfl
  have k1 := rowCell Zo 1 (v := .int .u32 (o.br : Int)) rfl
  have k2 := rowCell Zo 2 (v := .int .i64 o.bn) rfl
  have k3 := rowCell Zo 3 (v := .int .i64 o.sn) rfl
  refine wp_region_lit ?_
  refine wpList_load_mid rfl 39 _ rfl (w.heap.size) 0 rfl a.cells _ (rowAt Za) Tryd.underlying39 rfl sizeAc ?_
  go_wp2_with fail
  refine (HP.out w0 ee).mono ?_
  rintro e z1 ⟨rfl, t⟩
  have Za := hpB Za t
  have Zb := hpB Zb t
  have Zo := hpB Zo t
  have Zr := hpB Zr t
  have Zs := hpB Zs t
  have ee := ee.trans (t.mono ee.size)
  clear t
  clear k0 k1 k2 k3
  dsimp only
  rename_i hK
  refine hK _ _ ?_
  clear hK
  iterate 12 go_step
  have lZa := (Array.getElem?_eq_some_iff.1 Za).1
  have lZb := (Array.getElem?_eq_some_iff.1 Zb).1
  have lZo := (Array.getElem?_eq_some_iff.1 Zo).1
  have lZr := (Array.getElem?_eq_some_iff.1 Zr).1
  have lZs := (Array.getElem?_eq_some_iff.1 Zs).1
  have Za := hpA Za (.cells #[.int .u32 0, .int .i64 0, .int .i64 0, .bool false, .int .u32 0, .int .i64 0, .int .i64 0, .int .i64 0, .int .i64 0, .slice none 0 0, .slice none 0 0, .int .i64 0, .int .i64 0, .int .i64 0, .int .u64 0, .bool false] 39)
  have Zb := hpA Zb (.cells #[.int .u32 0, .int .i64 0, .int .i64 0, .bool false, .int .u32 0, .int .i64 0, .int .i64 0, .int .i64 0, .int .i64 0, .slice none 0 0, .slice none 0 0, .int .i64 0, .int .i64 0, .int .i64 0, .int .u64 0, .bool false] 39)
  have Zo := hpA Zo (.cells #[.int .u32 0, .int .i64 0, .int .i64 0, .bool false, .int .u32 0, .int .i64 0, .int .i64 0, .int .i64 0, .int .i64 0, .slice none 0 0, .slice none 0 0, .int .i64 0, .int .i64 0, .int .i64 0, .int .u64 0, .bool false] 39)
  have Zr := hpA Zr (.cells #[.int .u32 0, .int .i64 0, .int .i64 0, .bool false, .int .u32 0, .int .i64 0, .int .i64 0, .int .i64 0, .int .i64 0, .slice none 0 0, .slice none 0 0, .int .i64 0, .int .i64 0, .int .i64 0, .int .u64 0, .bool false] 39)
  have Zs := hpA Zs (.cells #[.int .u32 0, .int .i64 0, .int .i64 0, .bool false, .int .u32 0, .int .i64 0, .int .i64 0, .int .i64 0, .int .i64 0, .slice none 0 0, .slice none 0 0, .int .i64 0, .int .i64 0, .int .i64 0, .int .u64 0, .bool false] 39)
  have ee := ee.alloc ee.size (.cells #[.int .u32 0, .int .i64 0, .int .i64 0, .bool false, .int .u32 0, .int .i64 0, .int .i64 0, .int .i64 0, .int .i64 0, .slice none 0 0, .slice none 0 0, .int .i64 0, .int .i64 0, .int .i64 0, .int .u64 0, .bool false] 39)
  have Zn := hpN z1 (.cells #[.int .u32 0, .int .i64 0, .int .i64 0, .bool false, .int .u32 0, .int .i64 0, .int .i64 0, .int .i64 0, .int .i64 0, .slice none 0 0, .slice none 0 0, .int .i64 0, .int .i64 0, .int .i64 0, .int .u64 0, .bool false] 39) rfl
  generalize z1.alloc (.cells #[.int .u32 0, .int .i64 0, .int .i64 0, .bool false, .int .u32 0, .int .i64 0, .int .i64 0, .int .i64 0, .int .i64 0, .slice none 0 0, .slice none 0 0, .int .i64 0, .int .i64 0, .int .i64 0, .int .u64 0, .bool false] 39) = z2 at Za Zb Zo Zr Zs Zn ee ⊢
  refine wpList_store_row rfl 39 _ _ rfl (z1.heap.size) (a.prep o.br o.bn).cells.toArray rfl rfl 39 _ Zn sizeAc (by rfl) (Ac.one _) ?_
  have N_ := setRow_heap z2 (z1.heap.size) _ (a.prep o.br o.bn).cells.toArray _ _ Zn
  have ee := belowSet (cs := (a.prep o.br o.bn).cells.toArray) ee Zn (by omega)
  have Za := hpR Za (g' := z1.heap.size) (by omega) (a.prep o.br o.bn).cells.toArray
  have Zb := hpR Zb (g' := z1.heap.size) (by omega) (a.prep o.br o.bn).cells.toArray
  have Zo := hpR Zo (g' := z1.heap.size) (by omega) (a.prep o.br o.bn).cells.toArray
  have Zr := hpR Zr (g' := z1.heap.size) (by omega) (a.prep o.br o.bn).cells.toArray
  have Zs := hpR Zs (g' := z1.heap.size) (by omega) (a.prep o.br o.bn).cells.toArray
  clear Zn
  have Zn := N_
  clear N_
  generalize z2.setRow (z1.heap.size) (a.prep o.br o.bn).cells.toArray = z3 at Za Zb Zo Zr Zs Zn ee ⊢
  iterate 3 go_step
  go_upto_region 4 with fail
  have k0 := rowCell Zo 0 (v := .int .i64 o.k) rfl
  have k1 := rowCell Zo 1 (v := .int .u32 (o.br : Int)) rfl
  have k2 := rowCell Zo 2 (v := .int .i64 o.bn) rfl
  have k3 := rowCell Zo 3 (v := .int .i64 o.sn) rfl
  refine wp_region_lit ?_
  refine wpList_load_mid rfl 43 _ rfl (w.heap.size + 1) 0 rfl a.cells _ (rowAt Zb) Tryd.underlying43 rfl sizeRAc ?_
  go_wp2_with fail
  refine (HR.out z3 ee).mono ?_
  rintro e z4 ⟨rfl, t⟩
  have Za := hpB Za t
  have Zb := hpB Zb t
  have Zo := hpB Zo t
  have Zr := hpB Zr t
  have Zs := hpB Zs t
  have Zn := hpB Zn t
  have ee := ee.trans (t.mono ee.size)
  clear t
  clear k0 k1 k2 k3
  dsimp only
  rename_i hK
  refine hK _ _ ?_
  clear hK
  iterate 12 go_step
  have lZa := (Array.getElem?_eq_some_iff.1 Za).1
  have lZb := (Array.getElem?_eq_some_iff.1 Zb).1
  have lZo := (Array.getElem?_eq_some_iff.1 Zo).1
  have lZr := (Array.getElem?_eq_some_iff.1 Zr).1
  have lZs := (Array.getElem?_eq_some_iff.1 Zs).1
  have lZn := (Array.getElem?_eq_some_iff.1 Zn).1
  have Za := hpA Za (.cells #[.int .u32 0, .int .i64 0, .int .i64 0, .bool false, .int .u32 0, .int .i64 0, .int .i64 0, .int .i64 0, .int .i64 0, .slice none 0 0, .slice none 0 0, .int .i64 0, .int .i64 0, .int .i64 0, .int .u64 0, .bool false] 43)
  have Zb := hpA Zb (.cells #[.int .u32 0, .int .i64 0, .int .i64 0, .bool false, .int .u32 0, .int .i64 0, .int .i64 0, .int .i64 0, .int .i64 0, .slice none 0 0, .slice none 0 0, .int .i64 0, .int .i64 0, .int .i64 0, .int .u64 0, .bool false] 43)
  have Zo := hpA Zo (.cells #[.int .u32 0, .int .i64 0, .int .i64 0, .bool false, .int .u32 0, .int .i64 0, .int .i64 0, .int .i64 0, .int .i64 0, .slice none 0 0, .slice none 0 0, .int .i64 0, .int .i64 0, .int .i64 0, .int .u64 0, .bool false] 43)
  have Zr := hpA Zr (.cells #[.int .u32 0, .int .i64 0, .int .i64 0, .bool false, .int .u32 0, .int .i64 0, .int .i64 0, .int .i64 0, .int .i64 0, .slice none 0 0, .slice none 0 0, .int .i64 0, .int .i64 0, .int .i64 0, .int .u64 0, .bool false] 43)
  have Zs := hpA Zs (.cells #[.int .u32 0, .int .i64 0, .int .i64 0, .bool false, .int .u32 0, .int .i64 0, .int .i64 0, .int .i64 0, .int .i64 0, .slice none 0 0, .slice none 0 0, .int .i64 0, .int .i64 0, .int .i64 0, .int .u64 0, .bool false] 43)
  have Zn := hpA Zn (.cells #[.int .u32 0, .int .i64 0, .int .i64 0, .bool false, .int .u32 0, .int .i64 0, .int .i64 0, .int .i64 0, .int .i64 0, .slice none 0 0, .slice none 0 0, .int .i64 0, .int .i64 0, .int .i64 0, .int .u64 0, .bool false] 43)
  have ee := ee.alloc ee.size (.cells #[.int .u32 0, .int .i64 0, .int .i64 0, .bool false, .int .u32 0, .int .i64 0, .int .i64 0, .int .i64 0, .int .i64 0, .slice none 0 0, .slice none 0 0, .int .i64 0, .int .i64 0, .int .i64 0, .int .u64 0, .bool false] 43)
  have Zm := hpN z4 (.cells #[.int .u32 0, .int .i64 0, .int .i64 0, .bool false, .int .u32 0, .int .i64 0, .int .i64 0, .int .i64 0, .int .i64 0, .slice none 0 0, .slice none 0 0, .int .i64 0, .int .i64 0, .int .i64 0, .int .u64 0, .bool false] 43) rfl
  generalize z4.alloc (.cells #[.int .u32 0, .int .i64 0, .int .i64 0, .bool false, .int .u32 0, .int .i64 0, .int .i64 0, .int .i64 0, .int .i64 0, .slice none 0 0, .slice none 0 0, .int .i64 0, .int .i64 0, .int .i64 0, .int .u64 0, .bool false] 43) = z5 at Za Zb Zo Zr Zs Zn Zm ee ⊢
  refine wpList_store_row rfl 43 _ _ rfl (z4.heap.size) (a.prep o.br o.bn).cells.toArray rfl rfl 43 _ Zm sizeRAc (by rfl) (Ac.one _) ?_
  have N_ := setRow_heap z5 (z4.heap.size) _ (a.prep o.br o.bn).cells.toArray _ _ Zm
  have ee := belowSet (cs := (a.prep o.br o.bn).cells.toArray) ee Zm (by omega)
  have Za := hpR Za (g' := z4.heap.size) (by omega) (a.prep o.br o.bn).cells.toArray
  have Zb := hpR Zb (g' := z4.heap.size) (by omega) (a.prep o.br o.bn).cells.toArray
  have Zo := hpR Zo (g' := z4.heap.size) (by omega) (a.prep o.br o.bn).cells.toArray
  have Zr := hpR Zr (g' := z4.heap.size) (by omega) (a.prep o.br o.bn).cells.toArray
  have Zs := hpR Zs (g' := z4.heap.size) (by omega) (a.prep o.br o.bn).cells.toArray
  have Zn := hpR Zn (g' := z4.heap.size) (by omega) (a.prep o.br o.bn).cells.toArray
  clear Zm
  have Zm := N_
  clear N_
  generalize z5.setRow (z4.heap.size) (a.prep o.br o.bn).cells.toArray = z6 at Za Zb Zo Zr Zs Zn Zm ee ⊢
  iterate 3 go_step
  go_upto_region 5 with fail
  refine wp_region_held_drew (S := fun z' => z'.rangeAt (z1.heap.size) 0 (a.prep o.br o.bn).cells ∧ z'.rangeAt (z4.heap.size) 0 (a.prep o.br o.bn).cells) (by kernel_rfl) ⟨rowAt Zn, rowAt Zm⟩ (fun hH => ?_)
  clear hH
  have Za : z6.drew.heap[w.heap.size]? = some (.cells a.cells.toArray 39) := Za
  have Zb : z6.drew.heap[w.heap.size + 1]? = some (.cells a.cells.toArray 43) := Zb
  have Zo : z6.drew.heap[w.heap.size + 1 + 1]? = some (.cells o.cells.toArray 53) := Zo
  have Zr : z6.drew.heap[w.heap.size + 1 + 1 + 1]? = some (.cells #[.int .u32 0, .int .i64 0, .int .i64 0, .bool false, .int .u32 0, .int .i64 0, .int .i64 0, .int .i64 0, .int .i64 0, .slice none 0 0, .slice none 0 0, .int .i64 0, .int .i64 0, .int .i64 0, .int .u64 0, .bool false] 39) := Zr
  have Zs : z6.drew.heap[w.heap.size + 1 + 1 + 1 + 1]? = some (.cells #[.int .u32 0, .int .i64 0, .int .i64 0, .bool false, .int .u32 0, .int .i64 0, .int .i64 0, .int .i64 0, .int .i64 0, .slice none 0 0, .slice none 0 0, .int .i64 0, .int .i64 0, .int .i64 0, .int .u64 0, .bool false] 43) := Zs
  have Zn : z6.drew.heap[z1.heap.size]? = some (.cells (a.prep o.br o.bn).cells.toArray 39) := Zn
  have Zm : z6.drew.heap[z4.heap.size]? = some (.cells (a.prep o.br o.bn).cells.toArray 43) := Zm
  have ee := belowDrewS ee
  generalize z6.drew = z7 at Za Zb Zo Zr Zs Zn Zm ee ⊢
  refine wpAnyH_take (i := 0) (v := .agg ((a.prep o.br o.bn).cells).toArray) rfl (by kernel_rfl) (by kernel_rfl) (by kernel_rfl) (fun _ _ _ h => h) (yieldsIf_load_mid (by rfl) 39 _ rfl (z1.heap.size) 0 rfl ((a.prep o.br o.bn).cells) _ (fun _ h => h.1) Tryd.underlying39 rfl sizeAc) ⟨rowAt Zn, rowAt Zm⟩ ?_
  try simp only [Act.put, List.getElem_toArray, List.getElem_cons_zero, List.getElem_cons_succ, List.setIfInBounds_toArray, List.set_cons_zero, List.set_cons_succ]
  refine wpAnyH_take (i := 1) (v := .agg ((a.prep o.br o.bn).cells).toArray) rfl (by kernel_rfl) (by kernel_rfl) (by kernel_rfl) (fun _ _ _ h => h) (yieldsIf_load_mid (by rfl) 43 _ rfl (z4.heap.size) 0 rfl ((a.prep o.br o.bn).cells) _ (fun _ h => h.2) Tryd.underlying43 rfl sizeRAc) ⟨rowAt Zn, rowAt Zm⟩ ?_
  try simp only [Act.put, List.getElem_toArray, List.getElem_cons_zero, List.getElem_cons_succ, List.setIfInBounds_toArray, List.set_cons_zero, List.set_cons_succ]
  refine wpAnyH_take (i := 2) (v := .bool (a.may o.br o.bn)) rfl (by kernel_rfl) (by kernel_rfl) (by kernel_rfl) (fun _ _ _ h => h) (Or.inl ⟨by rfl, fun w_ hS_ => by (first | (go_simp; done) | (go_simp; rfl))⟩) ⟨rowAt Zn, rowAt Zm⟩ ?_
  try simp only [Act.put, List.getElem_toArray, List.getElem_cons_zero, List.getElem_cons_succ, List.setIfInBounds_toArray, List.set_cons_zero, List.set_cons_succ]
  refine wpAnyH_take (i := 3) (v := .bool (a.may o.br o.bn)) rfl (by kernel_rfl) (by kernel_rfl) (by kernel_rfl) (fun _ _ _ h => h) (Or.inl ⟨by rfl, fun w_ hS_ => by (first | (go_simp; done) | (go_simp; rfl))⟩) ⟨rowAt Zn, rowAt Zm⟩ ?_
  try simp only [Act.put, List.getElem_toArray, List.getElem_cons_zero, List.getElem_cons_succ, List.setIfInBounds_toArray, List.set_cons_zero, List.set_cons_succ]
  refine wpAnyH_take (i := 4) (v := .bool true) rfl (by kernel_rfl) (by kernel_rfl) (by kernel_rfl) (fun _ _ _ h => h) (Or.inl ⟨by rfl, fun w_ hS_ => by (go_simp; first | done | rfl | simp)⟩) ⟨rowAt Zn, rowAt Zm⟩ ?_
  try simp only [Act.put, List.getElem_toArray, List.getElem_cons_zero, List.getElem_cons_succ, List.setIfInBounds_toArray, List.set_cons_zero, List.set_cons_succ]
  refine wpAnyH_ready (rs := [5]) (by kernel_rfl) (by simp) ?_
  refine AllReadyH.cons rfl (fun K hK => ?_) AllReadyH.nil
  rw [if_pos (by rfl)]
  refine wp_store_row 39 _ _ rfl (w.heap.size + 1 + 1 + 1) ((a.prep o.br o.bn).cells).toArray rfl rfl 39 _ Zr sizeAc (by rfl) (Ac.one _) ?_
  have N_ := setRow_heap z7 (w.heap.size + 1 + 1 + 1) _ ((a.prep o.br o.bn).cells).toArray _ _ Zr
  have ee := belowSet (cs := ((a.prep o.br o.bn).cells).toArray) ee Zr (by omega)
  have Za := hpR Za (g' := w.heap.size + 1 + 1 + 1) (by omega) ((a.prep o.br o.bn).cells).toArray
  have Zb := hpR Zb (g' := w.heap.size + 1 + 1 + 1) (by omega) ((a.prep o.br o.bn).cells).toArray
  have Zo := hpR Zo (g' := w.heap.size + 1 + 1 + 1) (by omega) ((a.prep o.br o.bn).cells).toArray
  have Zs := hpR Zs (g' := w.heap.size + 1 + 1 + 1) (by omega) ((a.prep o.br o.bn).cells).toArray
  have Zn := hpR Zn (g' := w.heap.size + 1 + 1 + 1) (by omega) ((a.prep o.br o.bn).cells).toArray
  have Zm := hpR Zm (g' := w.heap.size + 1 + 1 + 1) (by omega) ((a.prep o.br o.bn).cells).toArray
  clear Zr
  have Zr := N_
  clear N_
  generalize z7.setRow (w.heap.size + 1 + 1 + 1) ((a.prep o.br o.bn).cells).toArray = z8 at Za Zb Zo Zr Zs Zn Zm ee ⊢
  refine hK.out _ _ ⟨rowAt Zn, rowAt Zm⟩ (fun hH => ?_)
  clear hK K hH
  try simp only [Act.put, List.getElem_toArray, List.getElem_cons_zero, List.getElem_cons_succ, List.setIfInBounds_toArray, List.set_cons_zero, List.set_cons_succ]
  refine wpAnyH_ready (rs := [6]) (by kernel_rfl) (by simp) ?_
  refine AllReadyH.cons rfl (fun K hK => ?_) AllReadyH.nil
  rw [if_pos (by rfl)]
  refine wp_store_row 43 _ _ rfl (w.heap.size + 1 + 1 + 1 + 1) ((a.prep o.br o.bn).cells).toArray rfl rfl 43 _ Zs sizeRAc (by rfl) (Ac.one _) ?_
  have N_ := setRow_heap z8 (w.heap.size + 1 + 1 + 1 + 1) _ ((a.prep o.br o.bn).cells).toArray _ _ Zs
  have ee := belowSet (cs := ((a.prep o.br o.bn).cells).toArray) ee Zs (by omega)
  have Za := hpR Za (g' := w.heap.size + 1 + 1 + 1 + 1) (by omega) ((a.prep o.br o.bn).cells).toArray
  have Zb := hpR Zb (g' := w.heap.size + 1 + 1 + 1 + 1) (by omega) ((a.prep o.br o.bn).cells).toArray
  have Zo := hpR Zo (g' := w.heap.size + 1 + 1 + 1 + 1) (by omega) ((a.prep o.br o.bn).cells).toArray
  have Zr := hpR Zr (g' := w.heap.size + 1 + 1 + 1 + 1) (by omega) ((a.prep o.br o.bn).cells).toArray
  have Zn := hpR Zn (g' := w.heap.size + 1 + 1 + 1 + 1) (by omega) ((a.prep o.br o.bn).cells).toArray
  have Zm := hpR Zm (g' := w.heap.size + 1 + 1 + 1 + 1) (by omega) ((a.prep o.br o.bn).cells).toArray
  clear Zs
  have Zs := N_
  clear N_
  generalize z8.setRow (w.heap.size + 1 + 1 + 1 + 1) ((a.prep o.br o.bn).cells).toArray = z9 at Za Zb Zo Zr Zs Zn Zm ee ⊢
  refine hK.out _ _ ⟨rowAt Zn, rowAt Zm⟩ (fun hH => ?_)
  clear hK K hH
  try simp only [Act.put, List.getElem_toArray, List.getElem_cons_zero, List.getElem_cons_succ, List.setIfInBounds_toArray, List.set_cons_zero, List.set_cons_succ]
  refine wpAnyH_take (i := 7) (v := .bool true) rfl (by kernel_rfl) (by kernel_rfl) (by kernel_rfl) (fun _ _ _ h => h) (Or.inl ⟨by rfl, fun w_ hS_ => by (first | (go_simp; done) | (go_simp; rfl))⟩) ⟨rowAt Zn, rowAt Zm⟩ ?_
  try simp only [Act.put, List.getElem_toArray, List.getElem_cons_zero, List.getElem_cons_succ, List.setIfInBounds_toArray, List.set_cons_zero, List.set_cons_succ]
  refine wpAnyH_done (by kernel_rfl) ?_ _
  go_wp2_with fail
  refine bodyPost_ret (v := .tuple #[.agg ((a.prep o.br o.bn).cells).toArray, .agg ((a.prep o.br o.bn).cells).toArray, .bool true]) (res_cct rfl rfl rfl rfl Zr Zs Tryd.underlying39 rfl sizeAc Tryd.underlying43 rfl sizeRAc) rfl ⟨rfl, ee⟩
set_option maxHeartbeats 3200000 in
theorem act_2 (a : Ac) (o : AOp) (w : World) (B0 : Nat) (hB : B0 ≤ w.heap.size) (ok : CmOk w B0 a.c) (okx : CmOk w B0 o.x) (hT : Tabs w) (hk : o.k = 2) :
    Calls Tryd.prog 18 #[.agg a.cells.toArray, .agg a.cells.toArray, .agg o.cells.toArray] w fun e w' => e = .returned (.tuple #[.agg (a.vote o.br o.bn o.sn o.x).cells.toArray, .agg (a.vote o.br o.bn o.sn o.x).cells.toArray, .bool true]) ∧ Below w.heap.size w w' := by
  have HP := Lib.hid (fun z (hz : Below w.heap.size w z) => c_vote a o.br o.bn o.sn o.x z B0 (Nat.le_trans hB hz.size) (ok.below hz hB) (okx.below hz hB) (hT.below hz))
  have HR := Lib.hid (fun z (hz : Below w.heap.size w z) => cr_vote a o.br o.bn o.sn o.x z B0 (Nat.le_trans hB hz.size) (ok.below hz hB) (okx.below hz hB))
  clear ok okx hT
  obtain ⟨w0, hw0⟩ : ∃ w0, w0 = ((((w.alloc (.cells a.cells.toArray 39)).alloc (.cells a.cells.toArray 43)).alloc (.cells o.cells.toArray 53)).alloc (.cells #[.int .u32 0, .int .i64 0, .int .i64 0, .bool false, .int .u32 0, .int .i64 0, .int .i64 0, .int .i64 0, .int .i64 0, .slice none 0 0, .slice none 0 0, .int .i64 0, .int .i64 0, .int .i64 0, .int .u64 0, .bool false] 39)).alloc (.cells #[.int .u32 0, .int .i64 0, .int .i64 0, .bool false, .int .u32 0, .int .i64 0, .int .i64 0, .int .i64 0, .int .i64 0, .slice none 0 0, .slice none 0 0, .int .i64 0, .int .i64 0, .int .i64 0, .int .u64 0, .bool false] 43) := ⟨_, rfl⟩
  have ee : Below w.heap.size w w0 := by rw [hw0]; exact (((((Below.refl _ _).alloc (Nat.le_refl _) _).alloc (by simp) _).alloc (by simp; omega) _).alloc (by simp; omega) _).alloc (by simp; omega) _
  have Za : w0.heap[w.heap.size]? = some (.cells a.cells.toArray 39) := by rw [hw0]; exact hpA (hpA (hpA (hpA (hpN _ _ rfl) _) _) _) _
  have Zb : w0.heap[w.heap.size + 1]? = some (.cells a.cells.toArray 43) := by rw [hw0]; exact hpA (hpA (hpA (hpN _ _ (by simp)) _) _) _
  have Zo : w0.heap[w.heap.size + 1 + 1]? = some (.cells o.cells.toArray 53) := by rw [hw0]; exact hpA (hpA (hpN _ _ (by simp)) _) _
  have Zr : w0.heap[w.heap.size + 1 + 1 + 1]? = some (.cells #[.int .u32 0, .int .i64 0, .int .i64 0, .bool false, .int .u32 0, .int .i64 0, .int .i64 0, .int .i64 0, .int .i64 0, .slice none 0 0, .slice none 0 0, .int .i64 0, .int .i64 0, .int .i64 0, .int .u64 0, .bool false] 39) := by rw [hw0]; exact hpA (hpN _ _ (by simp)) _
  have Zs : w0.heap[w.heap.size + 1 + 1 + 1 + 1]? = some (.cells #[.int .u32 0, .int .i64 0, .int .i64 0, .bool false, .int .u32 0, .int .i64 0, .int .i64 0, .int .i64 0, .int .i64 0, .slice none 0 0, .slice none 0 0, .int .i64 0, .int .i64 0, .int .i64 0, .int .u64 0, .bool false] 43) := by rw [hw0]; exact hpN _ _ (by simp)
  go_enter Tryd.func18, Tryd.ntmps18
  go_upto_region 1 with fail
  change Code.wp _ _ _ _ (((((w.alloc (.cells a.cells.toArray 39)).alloc (.cells a.cells.toArray 43)).alloc (.cells o.cells.toArray 53)).alloc (.cells #[.int .u32 0, .int .i64 0, .int .i64 0, .bool false, .int .u32 0, .int .i64 0, .int .i64 0, .int .i64 0, .int .i64 0, .slice none 0 0, .slice none 0 0, .int .i64 0, .int .i64 0, .int .i64 0, .int .u64 0, .bool false] 39)).alloc (.cells #[.int .u32 0, .int .i64 0, .int .i64 0, .bool false, .int .u32 0, .int .i64 0, .int .i64 0, .int .i64 0, .int .i64 0, .slice none 0 0, .slice none 0 0, .int .i64 0, .int .i64 0, .int .i64 0, .int .u64 0, .bool false] 43))
  rw [← hw0]
  clear hw0
  have f1 : (o.k == 1) = false := by simp [hk]
  have f2 : (o.k == 2) = true := by simpa using hk
  clear hk
  have k0 := rowCell Zo 0 (v := .int .i64 o.k) rfl
  go_upto_region 7 with fail
  clear k0
  have k0 := rowCell Zo 0 (v := .int .i64 o.k) rfl
  have k1 := rowCell Zo 1 (v := .int .u32 (o.br : Int)) rfl
  have k2 := rowCell Zo 2 (v := .int .i64 o.bn) rfl
  have k3 := rowCell Zo 3 (v := .int .i64 o.sn) rfl
  refine wp_region_lit ?_
  refine wpList_load_mid rfl 39 _ rfl (w.heap.size) 0 rfl a.cells _ (rowAt Za) Tryd.underlying39 rfl sizeAc ?_
  iterate 12 go_step
  skip
  iterate 3 go_step
  refine wpList_load_mid rfl 37 _ rfl (w.heap.size + 1 + 1) 4 rfl o.x.cells _ (rowMid Zo 4 (AOp.part o)) Tryd.underlying37 rfl sizeCm ?_
  go_wp2_with fail
  refine (HP.out w0 ee).mono ?_
  rintro e z1 ⟨rfl, t⟩
  have Za := hpB Za t
  have Zb := hpB Zb t
  have Zo := hpB Zo t
  have Zr := hpB Zr t
  have Zs := hpB Zs t
  have ee := ee.trans (t.mono ee.size)
  clear t
  clear k0 k1 k2 k3
  dsimp only
  rename_i hK
  refine hK _ _ ?_
  clear hK
  iterate 12 go_step
  have lZa := (Array.getElem?_eq_some_iff.1 Za).1
  have lZb := (Array.getElem?_eq_some_iff.1 Zb).1
  have lZo := (Array.getElem?_eq_some_iff.1 Zo).1
  have lZr := (Array.getElem?_eq_some_iff.1 Zr).1
  have lZs := (Array.getElem?_eq_some_iff.1 Zs).1
  have Za := hpA Za (.cells #[.int .u32 0, .int .i64 0, .int .i64 0, .bool false, .int .u32 0, .int .i64 0, .int .i64 0, .int .i64 0, .int .i64 0, .slice none 0 0, .slice none 0 0, .int .i64 0, .int .i64 0, .int .i64 0, .int .u64 0, .bool false] 39)
  have Zb := hpA Zb (.cells #[.int .u32 0, .int .i64 0, .int .i64 0, .bool false, .int .u32 0, .int .i64 0, .int .i64 0, .int .i64 0, .int .i64 0, .slice none 0 0, .slice none 0 0, .int .i64 0, .int .i64 0, .int .i64 0, .int .u64 0, .bool false] 39)
  have Zo := hpA Zo (.cells #[.int .u32 0, .int .i64 0, .int .i64 0, .bool false, .int .u32 0, .int .i64 0, .int .i64 0, .int .i64 0, .int .i64 0, .slice none 0 0, .slice none 0 0, .int .i64 0, .int .i64 0, .int .i64 0, .int .u64 0, .bool false] 39)
  have Zr := hpA Zr (.cells #[.int .u32 0, .int .i64 0, .int .i64 0, .bool false, .int .u32 0, .int .i64 0, .int .i64 0, .int .i64 0, .int .i64 0, .slice none 0 0, .slice none 0 0, .int .i64 0, .int .i64 0, .int .i64 0, .int .u64 0, .bool false] 39)
  have Zs := hpA Zs (.cells #[.int .u32 0, .int .i64 0, .int .i64 0, .bool false, .int .u32 0, .int .i64 0, .int .i64 0, .int .i64 0, .int .i64 0, .slice none 0 0, .slice none 0 0, .int .i64 0, .int .i64 0, .int .i64 0, .int .u64 0, .bool false] 39)
  have ee := ee.alloc ee.size (.cells #[.int .u32 0, .int .i64 0, .int .i64 0, .bool false, .int .u32 0, .int .i64 0, .int .i64 0, .int .i64 0, .int .i64 0, .slice none 0 0, .slice none 0 0, .int .i64 0, .int .i64 0, .int .i64 0, .int .u64 0, .bool false] 39)
  have Zn := hpN z1 (.cells #[.int .u32 0, .int .i64 0, .int .i64 0, .bool false, .int .u32 0, .int .i64 0, .int .i64 0, .int .i64 0, .int .i64 0, .slice none 0 0, .slice none 0 0, .int .i64 0, .int .i64 0, .int .i64 0, .int .u64 0, .bool false] 39) rfl
  generalize z1.alloc (.cells #[.int .u32 0, .int .i64 0, .int .i64 0, .bool false, .int .u32 0, .int .i64 0, .int .i64 0, .int .i64 0, .int .i64 0, .slice none 0 0, .slice none 0 0, .int .i64 0, .int .i64 0, .int .i64 0, .int .u64 0, .bool false] 39) = z2 at Za Zb Zo Zr Zs Zn ee ⊢
  refine wpList_store_row rfl 39 _ _ rfl (z1.heap.size) (a.vote o.br o.bn o.sn o.x).cells.toArray rfl rfl 39 _ Zn sizeAc (by rfl) (Ac.one _) ?_
  have N_ := setRow_heap z2 (z1.heap.size) _ (a.vote o.br o.bn o.sn o.x).cells.toArray _ _ Zn
  have ee := belowSet (cs := (a.vote o.br o.bn o.sn o.x).cells.toArray) ee Zn (by omega)
  have Za := hpR Za (g' := z1.heap.size) (by omega) (a.vote o.br o.bn o.sn o.x).cells.toArray
  have Zb := hpR Zb (g' := z1.heap.size) (by omega) (a.vote o.br o.bn o.sn o.x).cells.toArray
  have Zo := hpR Zo (g' := z1.heap.size) (by omega) (a.vote o.br o.bn o.sn o.x).cells.toArray
  have Zr := hpR Zr (g' := z1.heap.size) (by omega) (a.vote o.br o.bn o.sn o.x).cells.toArray
  have Zs := hpR Zs (g' := z1.heap.size) (by omega) (a.vote o.br o.bn o.sn o.x).cells.toArray
  clear Zn
  have Zn := N_
  clear N_
  generalize z2.setRow (z1.heap.size) (a.vote o.br o.bn o.sn o.x).cells.toArray = z3 at Za Zb Zo Zr Zs Zn ee ⊢
  iterate 3 go_step
  go_upto_region 8 with fail
  have k0 := rowCell Zo 0 (v := .int .i64 o.k) rfl
  have k1 := rowCell Zo 1 (v := .int .u32 (o.br : Int)) rfl
  have k2 := rowCell Zo 2 (v := .int .i64 o.bn) rfl
  have k3 := rowCell Zo 3 (v := .int .i64 o.sn) rfl
  refine wp_region_lit ?_
  refine wpList_load_mid rfl 43 _ rfl (w.heap.size + 1) 0 rfl a.cells _ (rowAt Zb) Tryd.underlying43 rfl sizeRAc ?_
  iterate 12 go_step
  skip
  iterate 3 go_step
  refine wpList_load_mid rfl 37 _ rfl (w.heap.size + 1 + 1) 4 rfl o.x.cells _ (rowMid Zo 4 (AOp.part o)) Tryd.underlying37 rfl sizeCm ?_
  go_wp2_with fail
  refine (HR.out z3 ee).mono ?_
  rintro e z4 ⟨rfl, t⟩
  have Za := hpB Za t
  have Zb := hpB Zb t
  have Zo := hpB Zo t
  have Zr := hpB Zr t
  have Zs := hpB Zs t
  have Zn := hpB Zn t
  have ee := ee.trans (t.mono ee.size)
  clear t
  clear k0 k1 k2 k3
  dsimp only
  rename_i hK
  refine hK _ _ ?_
  clear hK
  iterate 12 go_step
  have lZa := (Array.getElem?_eq_some_iff.1 Za).1
  have lZb := (Array.getElem?_eq_some_iff.1 Zb).1
  have lZo := (Array.getElem?_eq_some_iff.1 Zo).1
  have lZr := (Array.getElem?_eq_some_iff.1 Zr).1
  have lZs := (Array.getElem?_eq_some_iff.1 Zs).1
  have lZn := (Array.getElem?_eq_some_iff.1 Zn).1
  have Za := hpA Za (.cells #[.int .u32 0, .int .i64 0, .int .i64 0, .bool false, .int .u32 0, .int .i64 0, .int .i64 0, .int .i64 0, .int .i64 0, .slice none 0 0, .slice none 0 0, .int .i64 0, .int .i64 0, .int .i64 0, .int .u64 0, .bool false] 43)
  have Zb := hpA Zb (.cells #[.int .u32 0, .int .i64 0, .int .i64 0, .bool false, .int .u32 0, .int .i64 0, .int .i64 0, .int .i64 0, .int .i64 0, .slice none 0 0, .slice none 0 0, .int .i64 0, .int .i64 0, .int .i64 0, .int .u64 0, .bool false] 43)
  have Zo := hpA Zo (.cells #[.int .u32 0, .int .i64 0, .int .i64 0, .bool false, .int .u32 0, .int .i64 0, .int .i64 0, .int .i64 0, .int .i64 0, .slice none 0 0, .slice none 0 0, .int .i64 0, .int .i64 0, .int .i64 0, .int .u64 0, .bool false] 43)
  have Zr := hpA Zr (.cells #[.int .u32 0, .int .i64 0, .int .i64 0, .bool false, .int .u32 0, .int .i64 0, .int .i64 0, .int .i64 0, .int .i64 0, .slice none 0 0, .slice none 0 0, .int .i64 0, .int .i64 0, .int .i64 0, .int .u64 0, .bool false] 43)
  have Zs := hpA Zs (.cells #[.int .u32 0, .int .i64 0, .int .i64 0, .bool false, .int .u32 0, .int .i64 0, .int .i64 0, .int .i64 0, .int .i64 0, .slice none 0 0, .slice none 0 0, .int .i64 0, .int .i64 0, .int .i64 0, .int .u64 0, .bool false] 43)
  have Zn := hpA Zn (.cells #[.int .u32 0, .int .i64 0, .int .i64 0, .bool false, .int .u32 0, .int .i64 0, .int .i64 0, .int .i64 0, .int .i64 0, .slice none 0 0, .slice none 0 0, .int .i64 0, .int .i64 0, .int .i64 0, .int .u64 0, .bool false] 43)
  have ee := ee.alloc ee.size (.cells #[.int .u32 0, .int .i64 0, .int .i64 0, .bool false, .int .u32 0, .int .i64 0, .int .i64 0, .int .i64 0, .int .i64 0, .slice none 0 0, .slice none 0 0, .int .i64 0, .int .i64 0, .int .i64 0, .int .u64 0, .bool false] 43)
  have Zm := hpN z4 (.cells #[.int .u32 0, .int .i64 0, .int .i64 0, .bool false, .int .u32 0, .int .i64 0, .int .i64 0, .int .i64 0, .int .i64 0, .slice none 0 0, .slice none 0 0, .int .i64 0, .int .i64 0, .int .i64 0, .int .u64 0, .bool false] 43) rfl
  generalize z4.alloc (.cells #[.int .u32 0, .int .i64 0, .int .i64 0, .bool false, .int .u32 0, .int .i64 0, .int .i64 0, .int .i64 0, .int .i64 0, .slice none 0 0, .slice none 0 0, .int .i64 0, .int .i64 0, .int .i64 0, .int .u64 0, .bool false] 43) = z5 at Za Zb Zo Zr Zs Zn Zm ee ⊢
  refine wpList_store_row rfl 43 _ _ rfl (z4.heap.size) (a.vote o.br o.bn o.sn o.x).cells.toArray rfl rfl 43 _ Zm sizeRAc (by rfl) (Ac.one _) ?_
  have N_ := setRow_heap z5 (z4.heap.size) _ (a.vote o.br o.bn o.sn o.x).cells.toArray _ _ Zm
  have ee := belowSet (cs := (a.vote o.br o.bn o.sn o.x).cells.toArray) ee Zm (by omega)
  have Za := hpR Za (g' := z4.heap.size) (by omega) (a.vote o.br o.bn o.sn o.x).cells.toArray
  have Zb := hpR Zb (g' := z4.heap.size) (by omega) (a.vote o.br o.bn o.sn o.x).cells.toArray
  have Zo := hpR Zo (g' := z4.heap.size) (by omega) (a.vote o.br o.bn o.sn o.x).cells.toArray
  have Zr := hpR Zr (g' := z4.heap.size) (by omega) (a.vote o.br o.bn o.sn o.x).cells.toArray
  have Zs := hpR Zs (g' := z4.heap.size) (by omega) (a.vote o.br o.bn o.sn o.x).cells.toArray
  have Zn := hpR Zn (g' := z4.heap.size) (by omega) (a.vote o.br o.bn o.sn o.x).cells.toArray
  clear Zm
  have Zm := N_
  clear N_
  generalize z5.setRow (z4.heap.size) (a.vote o.br o.bn o.sn o.x).cells.toArray = z6 at Za Zb Zo Zr Zs Zn Zm ee ⊢
  iterate 3 go_step
  go_upto_region 9 with fail
  refine wp_region_held_drew (S := fun z' => z'.rangeAt (z1.heap.size) 0 (a.vote o.br o.bn o.sn o.x).cells ∧ z'.rangeAt (z4.heap.size) 0 (a.vote o.br o.bn o.sn o.x).cells) (by kernel_rfl) ⟨rowAt Zn, rowAt Zm⟩ (fun hH => ?_)
  clear hH
  have Za : z6.drew.heap[w.heap.size]? = some (.cells a.cells.toArray 39) := Za
  have Zb : z6.drew.heap[w.heap.size + 1]? = some (.cells a.cells.toArray 43) := Zb
  have Zo : z6.drew.heap[w.heap.size + 1 + 1]? = some (.cells o.cells.toArray 53) := Zo
  have Zr : z6.drew.heap[w.heap.size + 1 + 1 + 1]? = some (.cells #[.int .u32 0, .int .i64 0, .int .i64 0, .bool false, .int .u32 0, .int .i64 0, .int .i64 0, .int .i64 0, .int .i64 0, .slice none 0 0, .slice none 0 0, .int .i64 0, .int .i64 0, .int .i64 0, .int .u64 0, .bool false] 39) := Zr
  have Zs : z6.drew.heap[w.heap.size + 1 + 1 + 1 + 1]? = some (.cells #[.int .u32 0, .int .i64 0, .int .i64 0, .bool false, .int .u32 0, .int .i64 0, .int .i64 0, .int .i64 0, .int .i64 0, .slice none 0 0, .slice none 0 0, .int .i64 0, .int .i64 0, .int .i64 0, .int .u64 0, .bool false] 43) := Zs
  have Zn : z6.drew.heap[z1.heap.size]? = some (.cells (a.vote o.br o.bn o.sn o.x).cells.toArray 39) := Zn
  have Zm : z6.drew.heap[z4.heap.size]? = some (.cells (a.vote o.br o.bn o.sn o.x).cells.toArray 43) := Zm
  have ee := belowDrewS ee
  generalize z6.drew = z7 at Za Zb Zo Zr Zs Zn Zm ee ⊢
  refine wpAnyH_take (i := 0) (v := .agg ((a.vote o.br o.bn o.sn o.x).cells).toArray) rfl (by kernel_rfl) (by kernel_rfl) (by kernel_rfl) (fun _ _ _ h => h) (yieldsIf_load_mid (by rfl) 39 _ rfl (z1.heap.size) 0 rfl ((a.vote o.br o.bn o.sn o.x).cells) _ (fun _ h => h.1) Tryd.underlying39 rfl sizeAc) ⟨rowAt Zn, rowAt Zm⟩ ?_
  try simp only [Act.put, List.getElem_toArray, List.getElem_cons_zero, List.getElem_cons_succ, List.setIfInBounds_toArray, List.set_cons_zero, List.set_cons_succ]
  refine wpAnyH_take (i := 1) (v := .agg ((a.vote o.br o.bn o.sn o.x).cells).toArray) rfl (by kernel_rfl) (by kernel_rfl) (by kernel_rfl) (fun _ _ _ h => h) (yieldsIf_load_mid (by rfl) 43 _ rfl (z4.heap.size) 0 rfl ((a.vote o.br o.bn o.sn o.x).cells) _ (fun _ h => h.2) Tryd.underlying43 rfl sizeRAc) ⟨rowAt Zn, rowAt Zm⟩ ?_
  try simp only [Act.put, List.getElem_toArray, List.getElem_cons_zero, List.getElem_cons_succ, List.setIfInBounds_toArray, List.set_cons_zero, List.set_cons_succ]
  refine wpAnyH_take (i := 2) (v := .int .i64 (a.how o.br o.bn o.sn o.x)) rfl (by kernel_rfl) (by kernel_rfl) (by kernel_rfl) (fun _ _ _ h => h) (Or.inl ⟨by rfl, fun w_ hS_ => by (first | (go_simp; done) | (go_simp; rfl))⟩) ⟨rowAt Zn, rowAt Zm⟩ ?_
  try simp only [Act.put, List.getElem_toArray, List.getElem_cons_zero, List.getElem_cons_succ, List.setIfInBounds_toArray, List.set_cons_zero, List.set_cons_succ]
  refine wpAnyH_take (i := 3) (v := .int .i64 (a.how o.br o.bn o.sn o.x)) rfl (by kernel_rfl) (by kernel_rfl) (by kernel_rfl) (fun _ _ _ h => h) (Or.inl ⟨by rfl, fun w_ hS_ => by (first | (go_simp; done) | (go_simp; rfl))⟩) ⟨rowAt Zn, rowAt Zm⟩ ?_
  try simp only [Act.put, List.getElem_toArray, List.getElem_cons_zero, List.getElem_cons_succ, List.setIfInBounds_toArray, List.set_cons_zero, List.set_cons_succ]
  refine wpAnyH_take (i := 4) (v := .bool true) rfl (by kernel_rfl) (by kernel_rfl) (by kernel_rfl) (fun _ _ _ h => h) (Or.inl ⟨by rfl, fun w_ hS_ => by (go_simp; first | done | rfl | simp)⟩) ⟨rowAt Zn, rowAt Zm⟩ ?_
  try simp only [Act.put, List.getElem_toArray, List.getElem_cons_zero, List.getElem_cons_succ, List.setIfInBounds_toArray, List.set_cons_zero, List.set_cons_succ]
  refine wpAnyH_ready (rs := [5]) (by kernel_rfl) (by simp) ?_
  refine AllReadyH.cons rfl (fun K hK => ?_) AllReadyH.nil
  rw [if_pos (by rfl)]
  refine wp_store_row 39 _ _ rfl (w.heap.size + 1 + 1 + 1) ((a.vote o.br o.bn o.sn o.x).cells).toArray rfl rfl 39 _ Zr sizeAc (by rfl) (Ac.one _) ?_
  have N_ := setRow_heap z7 (w.heap.size + 1 + 1 + 1) _ ((a.vote o.br o.bn o.sn o.x).cells).toArray _ _ Zr
  have ee := belowSet (cs := ((a.vote o.br o.bn o.sn o.x).cells).toArray) ee Zr (by omega)
  have Za := hpR Za (g' := w.heap.size + 1 + 1 + 1) (by omega) ((a.vote o.br o.bn o.sn o.x).cells).toArray
  have Zb := hpR Zb (g' := w.heap.size + 1 + 1 + 1) (by omega) ((a.vote o.br o.bn o.sn o.x).cells).toArray
  have Zo := hpR Zo (g' := w.heap.size + 1 + 1 + 1) (by omega) ((a.vote o.br o.bn o.sn o.x).cells).toArray
  have Zs := hpR Zs (g' := w.heap.size + 1 + 1 + 1) (by omega) ((a.vote o.br o.bn o.sn o.x).cells).toArray
  have Zn := hpR Zn (g' := w.heap.size + 1 + 1 + 1) (by omega) ((a.vote o.br o.bn o.sn o.x).cells).toArray
  have Zm := hpR Zm (g' := w.heap.size + 1 + 1 + 1) (by omega) ((a.vote o.br o.bn o.sn o.x).cells).toArray
  clear Zr
  have Zr := N_
  clear N_
  generalize z7.setRow (w.heap.size + 1 + 1 + 1) ((a.vote o.br o.bn o.sn o.x).cells).toArray = z8 at Za Zb Zo Zr Zs Zn Zm ee ⊢
  refine hK.out _ _ ⟨rowAt Zn, rowAt Zm⟩ (fun hH => ?_)
  clear hK K hH
  try simp only [Act.put, List.getElem_toArray, List.getElem_cons_zero, List.getElem_cons_succ, List.setIfInBounds_toArray, List.set_cons_zero, List.set_cons_succ]
  refine wpAnyH_ready (rs := [6]) (by kernel_rfl) (by simp) ?_
  refine AllReadyH.cons rfl (fun K hK => ?_) AllReadyH.nil
  rw [if_pos (by rfl)]
  refine wp_store_row 43 _ _ rfl (w.heap.size + 1 + 1 + 1 + 1) ((a.vote o.br o.bn o.sn o.x).cells).toArray rfl rfl 43 _ Zs sizeRAc (by rfl) (Ac.one _) ?_
  have N_ := setRow_heap z8 (w.heap.size + 1 + 1 + 1 + 1) _ ((a.vote o.br o.bn o.sn o.x).cells).toArray _ _ Zs
  have ee := belowSet (cs := ((a.vote o.br o.bn o.sn o.x).cells).toArray) ee Zs (by omega)
  have Za := hpR Za (g' := w.heap.size + 1 + 1 + 1 + 1) (by omega) ((a.vote o.br o.bn o.sn o.x).cells).toArray
  have Zb := hpR Zb (g' := w.heap.size + 1 + 1 + 1 + 1) (by omega) ((a.vote o.br o.bn o.sn o.x).cells).toArray
  have Zo := hpR Zo (g' := w.heap.size + 1 + 1 + 1 + 1) (by omega) ((a.vote o.br o.bn o.sn o.x).cells).toArray
  have Zr := hpR Zr (g' := w.heap.size + 1 + 1 + 1 + 1) (by omega) ((a.vote o.br o.bn o.sn o.x).cells).toArray
  have Zn := hpR Zn (g' := w.heap.size + 1 + 1 + 1 + 1) (by omega) ((a.vote o.br o.bn o.sn o.x).cells).toArray
  have Zm := hpR Zm (g' := w.heap.size + 1 + 1 + 1 + 1) (by omega) ((a.vote o.br o.bn o.sn o.x).cells).toArray
  clear Zs
  have Zs := N_
  clear N_
  generalize z8.setRow (w.heap.size + 1 + 1 + 1 + 1) ((a.vote o.br o.bn o.sn o.x).cells).toArray = z9 at Za Zb Zo Zr Zs Zn Zm ee ⊢
  refine hK.out _ _ ⟨rowAt Zn, rowAt Zm⟩ (fun hH => ?_)
  clear hK K hH
  try simp only [Act.put, List.getElem_toArray, List.getElem_cons_zero, List.getElem_cons_succ, List.setIfInBounds_toArray, List.set_cons_zero, List.set_cons_succ]
  refine wpAnyH_take (i := 7) (v := .bool true) rfl (by kernel_rfl) (by kernel_rfl) (by kernel_rfl) (fun _ _ _ h => h) (Or.inl ⟨by rfl, fun w_ hS_ => by (first | (go_simp; done) | (go_simp; rfl))⟩) ⟨rowAt Zn, rowAt Zm⟩ ?_
  try simp only [Act.put, List.getElem_toArray, List.getElem_cons_zero, List.getElem_cons_succ, List.setIfInBounds_toArray, List.set_cons_zero, List.set_cons_succ]
  refine wpAnyH_done (by kernel_rfl) ?_ _
  go_wp2_with fail
  refine bodyPost_ret (v := .tuple #[.agg ((a.vote o.br o.bn o.sn o.x).cells).toArray, .agg ((a.vote o.br o.bn o.sn o.x).cells).toArray, .bool true]) (res_cct rfl rfl rfl rfl Zr Zs Tryd.underlying39 rfl sizeAc Tryd.underlying43 rfl sizeRAc) rfl ⟨rfl, ee⟩
set_option maxHeartbeats 3200000 in
theorem act_3 (a : Ac) (o : AOp) (w : World) (B0 : Nat) (hB : B0 ≤ w.heap.size) (ok : CmOk w B0 a.c) (okx : CmOk w B0 o.x) (hT : Tabs w) (hk : o.k = 3) :
    Calls Tryd.prog 18 #[.agg a.cells.toArray, .agg a.cells.toArray, .agg o.cells.toArray] w fun e w' => e = .returned (.tuple #[.agg (a.learn o.sn).cells.toArray, .agg (a.learn o.sn).cells.toArray, .bool true]) ∧ Below w.heap.size w w' := by
  have HP := Lib.hid (fun z (hz : Below w.heap.size w z) => c_learn a o.sn z B0 (Nat.le_trans hB hz.size) (ok.below hz hB) (hT.below hz))
  have HR := Lib.hid (fun z (hz : Below w.heap.size w z) => cr_learn a o.sn z B0 (Nat.le_trans hB hz.size) (ok.below hz hB))
  clear ok okx hT
  obtain ⟨w0, hw0⟩ : ∃ w0, w0 = ((((w.alloc (.cells a.cells.toArray 39)).alloc (.cells a.cells.toArray 43)).alloc (.cells o.cells.toArray 53)).alloc (.cells #[.int .u32 0, .int .i64 0, .int .i64 0, .bool false, .int .u32 0, .int .i64 0, .int .i64 0, .int .i64 0, .int .i64 0, .slice none 0 0, .slice none 0 0, .int .i64 0, .int .i64 0, .int .i64 0, .int .u64 0, .bool false] 39)).alloc (.cells #[.int .u32 0, .int .i64 0, .int .i64 0, .bool false, .int .u32 0, .int .i64 0, .int .i64 0, .int .i64 0, .int .i64 0, .slice none 0 0, .slice none 0 0, .int .i64 0, .int .i64 0, .int .i64 0, .int .u64 0, .bool false] 43) := ⟨_, rfl⟩
  have ee : Below w.heap.size w w0 := by rw [hw0]; exact (((((Below.refl _ _).alloc (Nat.le_refl _) _).alloc (by simp) _).alloc (by simp; omega) _).alloc (by simp; omega) _).alloc (by simp; omega) _
  have Za : w0.heap[w.heap.size]? = some (.cells a.cells.toArray 39) := by rw [hw0]; exact hpA (hpA (hpA (hpA (hpN _ _ rfl) _) _) _) _
  have Zb : w0.heap[w.heap.size + 1]? = some (.cells a.cells.toArray 43) := by rw [hw0]; exact hpA (hpA (hpA (hpN _ _ (by simp)) _) _) _
  have Zo : w0.heap[w.heap.size + 1 + 1]? = some (.cells o.cells.toArray 53) := by rw [hw0]; exact hpA (hpA (hpN _ _ (by simp)) _) _
  have Zr : w0.heap[w.heap.size + 1 + 1 + 1]? = some (.cells #[.int .u32 0, .int .i64 0, .int .i64 0, .bool false, .int .u32 0, .int .i64 0, .int .i64 0, .int .i64 0, .int .i64 0, .slice none 0 0, .slice none 0 0, .int .i64 0, .int .i64 0, .int .i64 0, .int .u64 0, .bool false] 39) := by rw [hw0]; exact hpA (hpN _ _ (by simp)) _
  have Zs : w0.heap[w.heap.size + 1 + 1 + 1 + 1]? = some (.cells #[.int .u32 0, .int .i64 0, .int .i64 0, .bool false, .int .u32 0, .int .i64 0, .int .i64 0, .int .i64 0, .int .i64 0, .slice none 0 0, .slice none 0 0, .int .i64 0, .int .i64 0, .int .i64 0, .int .u64 0, .bool false] 43) := by rw [hw0]; exact hpN _ _ (by simp)
  go_enter Tryd.func18, Tryd.ntmps18
  go_upto_region 1 with fail
  change Code.wp _ _ _ _ (((((w.alloc (.cells a.cells.toArray 39)).alloc (.cells a.cells.toArray 43)).alloc (.cells o.cells.toArray 53)).alloc (.cells #[.int .u32 0, .int .i64 0, .int .i64 0, .bool false, .int .u32 0, .int .i64 0, .int .i64 0, .int .i64 0, .int .i64 0, .slice none 0 0, .slice none 0 0, .int .i64 0, .int .i64 0, .int .i64 0, .int .u64 0, .bool false] 39)).alloc (.cells #[.int .u32 0, .int .i64 0, .int .i64 0, .bool false, .int .u32 0, .int .i64 0, .int .i64 0, .int .i64 0, .int .i64 0, .slice none 0 0, .slice none 0 0, .int .i64 0, .int .i64 0, .int .i64 0, .int .u64 0, .bool false] 43))
  rw [← hw0]
  clear hw0
  have f1 : (o.k == 1) = false := by simp [hk]
  have f2 : (o.k == 2) = false := by simp [hk]
  have f3 : (o.k == 3) = true := by simpa using hk
  clear hk
  have k0 := rowCell Zo 0 (v := .int .i64 o.k) rfl
  go_upto_region 11 with fail
  clear k0
  have k0 := rowCell Zo 0 (v := .int .i64 o.k) rfl
  have k1 := rowCell Zo 1 (v := .int .u32 (o.br : Int)) rfl
  have k2 := rowCell Zo 2 (v := .int .i64 o.bn) rfl
  have k3 := rowCell Zo 3 (v := .int .i64 o.sn) rfl
  refine wp_region_lit ?_
  refine wpList_load_mid rfl 39 _ rfl (w.heap.size) 0 rfl a.cells _ (rowAt Za) Tryd.underlying39 rfl sizeAc ?_
  go_wp2_with fail
  refine (HP.out w0 ee).mono ?_
  rintro e z1 ⟨rfl, t⟩
  have Za := hpB Za t
  have Zb := hpB Zb t
  have Zo := hpB Zo t
  have Zr := hpB Zr t
  have Zs := hpB Zs t
  have ee := ee.trans (t.mono ee.size)
  clear t
  clear k0 k1 k2 k3
  dsimp only
  rename_i hK
  refine hK _ _ ?_
  clear hK
  iterate 12 go_step
  have lZa := (Array.getElem?_eq_some_iff.1 Za).1
  have lZb := (Array.getElem?_eq_some_iff.1 Zb).1
  have lZo := (Array.getElem?_eq_some_iff.1 Zo).1
  have lZr := (Array.getElem?_eq_some_iff.1 Zr).1
  have lZs := (Array.getElem?_eq_some_iff.1 Zs).1
  have Za := hpA Za (.cells #[.int .u32 0, .int .i64 0, .int .i64 0, .bool false, .int .u32 0, .int .i64 0, .int .i64 0, .int .i64 0, .int .i64 0, .slice none 0 0, .slice none 0 0, .int .i64 0, .int .i64 0, .int .i64 0, .int .u64 0, .bool false] 39)
  have Zb := hpA Zb (.cells #[.int .u32 0, .int .i64 0, .int .i64 0, .bool false, .int .u32 0, .int .i64 0, .int .i64 0, .int .i64 0, .int .i64 0, .slice none 0 0, .slice none 0 0, .int .i64 0, .int .i64 0, .int .i64 0, .int .u64 0, .bool false] 39)
  have Zo := hpA Zo (.cells #[.int .u32 0, .int .i64 0, .int .i64 0, .bool false, .int .u32 0, .int .i64 0, .int .i64 0, .int .i64 0, .int .i64 0, .slice none 0 0, .slice none 0 0, .int .i64 0, .int .i64 0, .int .i64 0, .int .u64 0, .bool false] 39)
  have Zr := hpA Zr (.cells #[.int .u32 0, .int .i64 0, .int .i64 0, .bool false, .int .u32 0, .int .i64 0, .int .i64 0, .int .i64 0, .int .i64 0, .slice none 0 0, .slice none 0 0, .int .i64 0, .int .i64 0, .int .i64 0, .int .u64 0, .bool false] 39)
  have Zs := hpA Zs (.cells #[.int .u32 0, .int .i64 0, .int .i64 0, .bool false, .int .u32 0, .int .i64 0, .int .i64 0, .int .i64 0, .int .i64 0, .slice none 0 0, .slice none 0 0, .int .i64 0, .int .i64 0, .int .i64 0, .int .u64 0, .bool false] 39)
  have ee := ee.alloc ee.size (.cells #[.int .u32 0, .int .i64 0, .int .i64 0, .bool false, .int .u32 0, .int .i64 0, .int .i64 0, .int .i64 0, .int .i64 0, .slice none 0 0, .slice none 0 0, .int .i64 0, .int .i64 0, .int .i64 0, .int .u64 0, .bool false] 39)
  have Zn := hpN z1 (.cells #[.int .u32 0, .int .i64 0, .int .i64 0, .bool false, .int .u32 0, .int .i64 0, .int .i64 0, .int .i64 0, .int .i64 0, .slice none 0 0, .slice none 0 0, .int .i64 0, .int .i64 0, .int .i64 0, .int .u64 0, .bool false] 39) rfl
  generalize z1.alloc (.cells #[.int .u32 0, .int .i64 0, .int .i64 0, .bool false, .int .u32 0, .int .i64 0, .int .i64 0, .int .i64 0, .int .i64 0, .slice none 0 0, .slice none 0 0, .int .i64 0, .int .i64 0, .int .i64 0, .int .u64 0, .bool false] 39) = z2 at Za Zb Zo Zr Zs Zn ee ⊢
  refine wpList_store_row rfl 39 _ _ rfl (z1.heap.size) (a.learn o.sn).cells.toArray rfl rfl 39 _ Zn sizeAc (by rfl) (Ac.one _) ?_
  have N_ := setRow_heap z2 (z1.heap.size) _ (a.learn o.sn).cells.toArray _ _ Zn
  have ee := belowSet (cs := (a.learn o.sn).cells.toArray) ee Zn (by omega)
  have Za := hpR Za (g' := z1.heap.size) (by omega) (a.learn o.sn).cells.toArray
  have Zb := hpR Zb (g' := z1.heap.size) (by omega) (a.learn o.sn).cells.toArray
  have Zo := hpR Zo (g' := z1.heap.size) (by omega) (a.learn o.sn).cells.toArray
  have Zr := hpR Zr (g' := z1.heap.size) (by omega) (a.learn o.sn).cells.toArray
  have Zs := hpR Zs (g' := z1.heap.size) (by omega) (a.learn o.sn).cells.toArray
  clear Zn
  have Zn := N_
  clear N_
  generalize z2.setRow (z1.heap.size) (a.learn o.sn).cells.toArray = z3 at Za Zb Zo Zr Zs Zn ee ⊢
  iterate 3 go_step
  go_upto_region 12 with fail
  have k0 := rowCell Zo 0 (v := .int .i64 o.k) rfl
  have k1 := rowCell Zo 1 (v := .int .u32 (o.br : Int)) rfl
  have k2 := rowCell Zo 2 (v := .int .i64 o.bn) rfl
  have k3 := rowCell Zo 3 (v := .int .i64 o.sn) rfl
  refine wp_region_lit ?_
  refine wpList_load_mid rfl 43 _ rfl (w.heap.size + 1) 0 rfl a.cells _ (rowAt Zb) Tryd.underlying43 rfl sizeRAc ?_
  go_wp2_with fail
  refine (HR.out z3 ee).mono ?_
  rintro e z4 ⟨rfl, t⟩
  have Za := hpB Za t
  have Zb := hpB Zb t
  have Zo := hpB Zo t
  have Zr := hpB Zr t
  have Zs := hpB Zs t
  have Zn := hpB Zn t
  have ee := ee.trans (t.mono ee.size)
  clear t
  clear k0 k1 k2 k3
  dsimp only
  rename_i hK
  refine hK _ _ ?_
  clear hK
  iterate 12 go_step
  have lZa := (Array.getElem?_eq_some_iff.1 Za).1
  have lZb := (Array.getElem?_eq_some_iff.1 Zb).1
  have lZo := (Array.getElem?_eq_some_iff.1 Zo).1
  have lZr := (Array.getElem?_eq_some_iff.1 Zr).1
  have lZs := (Array.getElem?_eq_some_iff.1 Zs).1
  have lZn := (Array.getElem?_eq_some_iff.1 Zn).1
  have Za := hpA Za (.cells #[.int .u32 0, .int .i64 0, .int .i64 0, .bool false, .int .u32 0, .int .i64 0, .int .i64 0, .int .i64 0, .int .i64 0, .slice none 0 0, .slice none 0 0, .int .i64 0, .int .i64 0, .int .i64 0, .int .u64 0, .bool false] 43)
  have Zb := hpA Zb (.cells #[.int .u32 0, .int .i64 0, .int .i64 0, .bool false, .int .u32 0, .int .i64 0, .int .i64 0, .int .i64 0, .int .i64 0, .slice none 0 0, .slice none 0 0, .int .i64 0, .int .i64 0, .int .i64 0, .int .u64 0, .bool false] 43)
  have Zo := hpA Zo (.cells #[.int .u32 0, .int .i64 0, .int .i64 0, .bool false, .int .u32 0, .int .i64 0, .int .i64 0, .int .i64 0, .int .i64 0, .slice none 0 0, .slice none 0 0, .int .i64 0, .int .i64 0, .int .i64 0, .int .u64 0, .bool false] 43)
  have Zr := hpA Zr (.cells #[.int .u32 0, .int .i64 0, .int .i64 0, .bool false, .int .u32 0, .int .i64 0, .int .i64 0, .int .i64 0, .int .i64 0, .slice none 0 0, .slice none 0 0, .int .i64 0, .int .i64 0, .int .i64 0, .int .u64 0, .bool false] 43)
  have Zs := hpA Zs (.cells #[.int .u32 0, .int .i64 0, .int .i64 0, .bool false, .int .u32 0, .int .i64 0, .int .i64 0, .int .i64 0, .int .i64 0, .slice none 0 0, .slice none 0 0, .int .i64 0, .int .i64 0, .int .i64 0, .int .u64 0, .bool false] 43)
  have Zn := hpA Zn (.cells #[.int .u32 0, .int .i64 0, .int .i64 0, .bool false, .int .u32 0, .int .i64 0, .int .i64 0, .int .i64 0, .int .i64 0, .slice none 0 0, .slice none 0 0, .int .i64 0, .int .i64 0, .int .i64 0, .int .u64 0, .bool false] 43)
  have ee := ee.alloc ee.size (.cells #[.int .u32 0, .int .i64 0, .int .i64 0, .bool false, .int .u32 0, .int .i64 0, .int .i64 0, .int .i64 0, .int .i64 0, .slice none 0 0, .slice none 0 0, .int .i64 0, .int .i64 0, .int .i64 0, .int .u64 0, .bool false] 43)
  have Zm := hpN z4 (.cells #[.int .u32 0, .int .i64 0, .int .i64 0, .bool false, .int .u32 0, .int .i64 0, .int .i64 0, .int .i64 0, .int .i64 0, .slice none 0 0, .slice none 0 0, .int .i64 0, .int .i64 0, .int .i64 0, .int .u64 0, .bool false] 43) rfl
  generalize z4.alloc (.cells #[.int .u32 0, .int .i64 0, .int .i64 0, .bool false, .int .u32 0, .int .i64 0, .int .i64 0, .int .i64 0, .int .i64 0, .slice none 0 0, .slice none 0 0, .int .i64 0, .int .i64 0, .int .i64 0, .int .u64 0, .bool false] 43) = z5 at Za Zb Zo Zr Zs Zn Zm ee ⊢
  refine wpList_store_row rfl 43 _ _ rfl (z4.heap.size) (a.learn o.sn).cells.toArray rfl rfl 43 _ Zm sizeRAc (by rfl) (Ac.one _) ?_
  have N_ := setRow_heap z5 (z4.heap.size) _ (a.learn o.sn).cells.toArray _ _ Zm
  have ee := belowSet (cs := (a.learn o.sn).cells.toArray) ee Zm (by omega)
  have Za := hpR Za (g' := z4.heap.size) (by omega) (a.learn o.sn).cells.toArray
  have Zb := hpR Zb (g' := z4.heap.size) (by omega) (a.learn o.sn).cells.toArray
  have Zo := hpR Zo (g' := z4.heap.size) (by omega) (a.learn o.sn).cells.toArray
  have Zr := hpR Zr (g' := z4.heap.size) (by omega) (a.learn o.sn).cells.toArray
  have Zs := hpR Zs (g' := z4.heap.size) (by omega) (a.learn o.sn).cells.toArray
  have Zn := hpR Zn (g' := z4.heap.size) (by omega) (a.learn o.sn).cells.toArray
  clear Zm
  have Zm := N_
  clear N_
  generalize z5.setRow (z4.heap.size) (a.learn o.sn).cells.toArray = z6 at Za Zb Zo Zr Zs Zn Zm ee ⊢
  iterate 3 go_step
  go_upto_region 13 with fail
  refine wp_region_held_drew (S := fun z' => z'.rangeAt (z1.heap.size) 0 (a.learn o.sn).cells ∧ z'.rangeAt (z4.heap.size) 0 (a.learn o.sn).cells) (by kernel_rfl) ⟨rowAt Zn, rowAt Zm⟩ (fun hH => ?_)
  clear hH
  have Za : z6.drew.heap[w.heap.size]? = some (.cells a.cells.toArray 39) := Za
  have Zb : z6.drew.heap[w.heap.size + 1]? = some (.cells a.cells.toArray 43) := Zb
  have Zo : z6.drew.heap[w.heap.size + 1 + 1]? = some (.cells o.cells.toArray 53) := Zo
  have Zr : z6.drew.heap[w.heap.size + 1 + 1 + 1]? = some (.cells #[.int .u32 0, .int .i64 0, .int .i64 0, .bool false, .int .u32 0, .int .i64 0, .int .i64 0, .int .i64 0, .int .i64 0, .slice none 0 0, .slice none 0 0, .int .i64 0, .int .i64 0, .int .i64 0, .int .u64 0, .bool false] 39) := Zr
  have Zs : z6.drew.heap[w.heap.size + 1 + 1 + 1 + 1]? = some (.cells #[.int .u32 0, .int .i64 0, .int .i64 0, .bool false, .int .u32 0, .int .i64 0, .int .i64 0, .int .i64 0, .int .i64 0, .slice none 0 0, .slice none 0 0, .int .i64 0, .int .i64 0, .int .i64 0, .int .u64 0, .bool false] 43) := Zs
  have Zn : z6.drew.heap[z1.heap.size]? = some (.cells (a.learn o.sn).cells.toArray 39) := Zn
  have Zm : z6.drew.heap[z4.heap.size]? = some (.cells (a.learn o.sn).cells.toArray 43) := Zm
  have ee := belowDrewS ee
  generalize z6.drew = z7 at Za Zb Zo Zr Zs Zn Zm ee ⊢
  refine wpAnyH_take (i := 0) (v := .agg ((a.learn o.sn).cells).toArray) rfl (by kernel_rfl) (by kernel_rfl) (by kernel_rfl) (fun _ _ _ h => h) (yieldsIf_load_mid (by rfl) 39 _ rfl (z1.heap.size) 0 rfl ((a.learn o.sn).cells) _ (fun _ h => h.1) Tryd.underlying39 rfl sizeAc) ⟨rowAt Zn, rowAt Zm⟩ ?_
  try simp only [Act.put, List.getElem_toArray, List.getElem_cons_zero, List.getElem_cons_succ, List.setIfInBounds_toArray, List.set_cons_zero, List.set_cons_succ]
  refine wpAnyH_take (i := 1) (v := .agg ((a.learn o.sn).cells).toArray) rfl (by kernel_rfl) (by kernel_rfl) (by kernel_rfl) (fun _ _ _ h => h) (yieldsIf_load_mid (by rfl) 43 _ rfl (z4.heap.size) 0 rfl ((a.learn o.sn).cells) _ (fun _ h => h.2) Tryd.underlying43 rfl sizeRAc) ⟨rowAt Zn, rowAt Zm⟩ ?_
  try simp only [Act.put, List.getElem_toArray, List.getElem_cons_zero, List.getElem_cons_succ, List.setIfInBounds_toArray, List.set_cons_zero, List.set_cons_succ]
  refine wpAnyH_take (i := 2) (v := .bool (a.learns o.sn)) rfl (by kernel_rfl) (by kernel_rfl) (by kernel_rfl) (fun _ _ _ h => h) (Or.inl ⟨by rfl, fun w_ hS_ => by (first | (go_simp; done) | (go_simp; rfl))⟩) ⟨rowAt Zn, rowAt Zm⟩ ?_
  try simp only [Act.put, List.getElem_toArray, List.getElem_cons_zero, List.getElem_cons_succ, List.setIfInBounds_toArray, List.set_cons_zero, List.set_cons_succ]
  refine wpAnyH_take (i := 3) (v := .bool (a.learns o.sn)) rfl (by kernel_rfl) (by kernel_rfl) (by kernel_rfl) (fun _ _ _ h => h) (Or.inl ⟨by rfl, fun w_ hS_ => by (first | (go_simp; done) | (go_simp; rfl))⟩) ⟨rowAt Zn, rowAt Zm⟩ ?_
  try simp only [Act.put, List.getElem_toArray, List.getElem_cons_zero, List.getElem_cons_succ, List.setIfInBounds_toArray, List.set_cons_zero, List.set_cons_succ]
  refine wpAnyH_take (i := 4) (v := .bool true) rfl (by kernel_rfl) (by kernel_rfl) (by kernel_rfl) (fun _ _ _ h => h) (Or.inl ⟨by rfl, fun w_ hS_ => by (go_simp; first | done | rfl | simp)⟩) ⟨rowAt Zn, rowAt Zm⟩ ?_
  try simp only [Act.put, List.getElem_toArray, List.getElem_cons_zero, List.getElem_cons_succ, List.setIfInBounds_toArray, List.set_cons_zero, List.set_cons_succ]
  refine wpAnyH_ready (rs := [5]) (by kernel_rfl) (by simp) ?_
  refine AllReadyH.cons rfl (fun K hK => ?_) AllReadyH.nil
  rw [if_pos (by rfl)]
  refine wp_store_row 39 _ _ rfl (w.heap.size + 1 + 1 + 1) ((a.learn o.sn).cells).toArray rfl rfl 39 _ Zr sizeAc (by rfl) (Ac.one _) ?_
  have N_ := setRow_heap z7 (w.heap.size + 1 + 1 + 1) _ ((a.learn o.sn).cells).toArray _ _ Zr
  have ee := belowSet (cs := ((a.learn o.sn).cells).toArray) ee Zr (by omega)
  have Za := hpR Za (g' := w.heap.size + 1 + 1 + 1) (by omega) ((a.learn o.sn).cells).toArray
  have Zb := hpR Zb (g' := w.heap.size + 1 + 1 + 1) (by omega) ((a.learn o.sn).cells).toArray
  have Zo := hpR Zo (g' := w.heap.size + 1 + 1 + 1) (by omega) ((a.learn o.sn).cells).toArray
  have Zs := hpR Zs (g' := w.heap.size + 1 + 1 + 1) (by omega) ((a.learn o.sn).cells).toArray
  have Zn := hpR Zn (g' := w.heap.size + 1 + 1 + 1) (by omega) ((a.learn o.sn).cells).toArray
  have Zm := hpR Zm (g' := w.heap.size + 1 + 1 + 1) (by omega) ((a.learn o.sn).cells).toArray
  clear Zr
  have Zr := N_
  clear N_
  generalize z7.setRow (w.heap.size + 1 + 1 + 1) ((a.learn o.sn).cells).toArray = z8 at Za Zb Zo Zr Zs Zn Zm ee ⊢
  refine hK.out _ _ ⟨rowAt Zn, rowAt Zm⟩ (fun hH => ?_)
  clear hK K hH
  try simp only [Act.put, List.getElem_toArray, List.getElem_cons_zero, List.getElem_cons_succ, List.setIfInBounds_toArray, List.set_cons_zero, List.set_cons_succ]
  refine wpAnyH_ready (rs := [6]) (by kernel_rfl) (by simp) ?_
  refine AllReadyH.cons rfl (fun K hK => ?_) AllReadyH.nil
  rw [if_pos (by rfl)]
  refine wp_store_row 43 _ _ rfl (w.heap.size + 1 + 1 + 1 + 1) ((a.learn o.sn).cells).toArray rfl rfl 43 _ Zs sizeRAc (by rfl) (Ac.one _) ?_
  have N_ := setRow_heap z8 (w.heap.size + 1 + 1 + 1 + 1) _ ((a.learn o.sn).cells).toArray _ _ Zs
  have ee := belowSet (cs := ((a.learn o.sn).cells).toArray) ee Zs (by omega)
  have Za := hpR Za (g' := w.heap.size + 1 + 1 + 1 + 1) (by omega) ((a.learn o.sn).cells).toArray
  have Zb := hpR Zb (g' := w.heap.size + 1 + 1 + 1 + 1) (by omega) ((a.learn o.sn).cells).toArray
  have Zo := hpR Zo (g' := w.heap.size + 1 + 1 + 1 + 1) (by omega) ((a.learn o.sn).cells).toArray
  have Zr := hpR Zr (g' := w.heap.size + 1 + 1 + 1 + 1) (by omega) ((a.learn o.sn).cells).toArray
  have Zn := hpR Zn (g' := w.heap.size + 1 + 1 + 1 + 1) (by omega) ((a.learn o.sn).cells).toArray
  have Zm := hpR Zm (g' := w.heap.size + 1 + 1 + 1 + 1) (by omega) ((a.learn o.sn).cells).toArray
  clear Zs
  have Zs := N_
  clear N_
  generalize z8.setRow (w.heap.size + 1 + 1 + 1 + 1) ((a.learn o.sn).cells).toArray = z9 at Za Zb Zo Zr Zs Zn Zm ee ⊢
  refine hK.out _ _ ⟨rowAt Zn, rowAt Zm⟩ (fun hH => ?_)
  clear hK K hH
  try simp only [Act.put, List.getElem_toArray, List.getElem_cons_zero, List.getElem_cons_succ, List.setIfInBounds_toArray, List.set_cons_zero, List.set_cons_succ]
  refine wpAnyH_take (i := 7) (v := .bool true) rfl (by kernel_rfl) (by kernel_rfl) (by kernel_rfl) (fun _ _ _ h => h) (Or.inl ⟨by rfl, fun w_ hS_ => by (first | (go_simp; done) | (go_simp; rfl))⟩) ⟨rowAt Zn, rowAt Zm⟩ ?_
  try simp only [Act.put, List.getElem_toArray, List.getElem_cons_zero, List.getElem_cons_succ, List.setIfInBounds_toArray, List.set_cons_zero, List.set_cons_succ]
  refine wpAnyH_done (by kernel_rfl) ?_ _
  go_wp2_with fail
  refine bodyPost_ret (v := .tuple #[.agg ((a.learn o.sn).cells).toArray, .agg ((a.learn o.sn).cells).toArray, .bool true]) (res_cct rfl rfl rfl rfl Zr Zs Tryd.underlying39 rfl sizeAc Tryd.underlying43 rfl sizeRAc) rfl ⟨rfl, ee⟩
set_option maxHeartbeats 3200000 in
theorem act_0 (a : Ac) (o : AOp) (w : World) (B0 : Nat) (hB : B0 ≤ w.heap.size) (ok : CmOk w B0 a.c) (okx : CmOk w B0 o.x) (hT : Tabs w) (h1 : o.k ≠ 1) (h2 : o.k ≠ 2) (h3 : o.k ≠ 3) :
    Calls Tryd.prog 18 #[.agg a.cells.toArray, .agg a.cells.toArray, .agg o.cells.toArray] w fun e w' => e = .returned (.tuple #[.agg (a).cells.toArray, .agg (a).cells.toArray, .bool true]) ∧ Below w.heap.size w w' := by
  clear ok okx hT
  obtain ⟨w0, hw0⟩ : ∃ w0, w0 = ((((w.alloc (.cells a.cells.toArray 39)).alloc (.cells a.cells.toArray 43)).alloc (.cells o.cells.toArray 53)).alloc (.cells #[.int .u32 0, .int .i64 0, .int .i64 0, .bool false, .int .u32 0, .int .i64 0, .int .i64 0, .int .i64 0, .int .i64 0, .slice none 0 0, .slice none 0 0, .int .i64 0, .int .i64 0, .int .i64 0, .int .u64 0, .bool false] 39)).alloc (.cells #[.int .u32 0, .int .i64 0, .int .i64 0, .bool false, .int .u32 0, .int .i64 0, .int .i64 0, .int .i64 0, .int .i64 0, .slice none 0 0, .slice none 0 0, .int .i64 0, .int .i64 0, .int .i64 0, .int .u64 0, .bool false] 43) := ⟨_, rfl⟩
  have ee : Below w.heap.size w w0 := by rw [hw0]; exact (((((Below.refl _ _).alloc (Nat.le_refl _) _).alloc (by simp) _).alloc (by simp; omega) _).alloc (by simp; omega) _).alloc (by simp; omega) _
  have Za : w0.heap[w.heap.size]? = some (.cells a.cells.toArray 39) := by rw [hw0]; exact hpA (hpA (hpA (hpA (hpN _ _ rfl) _) _) _) _
  have Zb : w0.heap[w.heap.size + 1]? = some (.cells a.cells.toArray 43) := by rw [hw0]; exact hpA (hpA (hpA (hpN _ _ (by simp)) _) _) _
  have Zo : w0.heap[w.heap.size + 1 + 1]? = some (.cells o.cells.toArray 53) := by rw [hw0]; exact hpA (hpA (hpN _ _ (by simp)) _) _
  have Zr : w0.heap[w.heap.size + 1 + 1 + 1]? = some (.cells #[.int .u32 0, .int .i64 0, .int .i64 0, .bool false, .int .u32 0, .int .i64 0, .int .i64 0, .int .i64 0, .int .i64 0, .slice none 0 0, .slice none 0 0, .int .i64 0, .int .i64 0, .int .i64 0, .int .u64 0, .bool false] 39) := by rw [hw0]; exact hpA (hpN _ _ (by simp)) _
  have Zs : w0.heap[w.heap.size + 1 + 1 + 1 + 1]? = some (.cells #[.int .u32 0, .int .i64 0, .int .i64 0, .bool false, .int .u32 0, .int .i64 0, .int .i64 0, .int .i64 0, .int .i64 0, .slice none 0 0, .slice none 0 0, .int .i64 0, .int .i64 0, .int .i64 0, .int .u64 0, .bool false] 43) := by rw [hw0]; exact hpN _ _ (by simp)
  go_enter Tryd.func18, Tryd.ntmps18
  go_upto_region 1 with fail
  change Code.wp _ _ _ _ (((((w.alloc (.cells a.cells.toArray 39)).alloc (.cells a.cells.toArray 43)).alloc (.cells o.cells.toArray 53)).alloc (.cells #[.int .u32 0, .int .i64 0, .int .i64 0, .bool false, .int .u32 0, .int .i64 0, .int .i64 0, .int .i64 0, .int .i64 0, .slice none 0 0, .slice none 0 0, .int .i64 0, .int .i64 0, .int .i64 0, .int .u64 0, .bool false] 39)).alloc (.cells #[.int .u32 0, .int .i64 0, .int .i64 0, .bool false, .int .u32 0, .int .i64 0, .int .i64 0, .int .i64 0, .int .i64 0, .slice none 0 0, .slice none 0 0, .int .i64 0, .int .i64 0, .int .i64 0, .int .u64 0, .bool false] 43))
  rw [← hw0]
  clear hw0
  have f1 : (o.k == 1) = false := by simpa using h1
  have f2 : (o.k == 2) = false := by simpa using h2
  have f3 : (o.k == 3) = false := by simpa using h3
  clear h1 h2 h3
  have k0 := rowCell Zo 0 (v := .int .i64 o.k) rfl
  go_upto_region 14 with fail
  clear k0
  refine wp_region_held_drew (S := fun z' => z'.rangeAt (w.heap.size) 0 (a).cells ∧ z'.rangeAt (w.heap.size + 1) 0 (a).cells) (by kernel_rfl) ⟨rowAt Za, rowAt Zb⟩ (fun hH => ?_)
  clear hH
  have Za : w0.drew.heap[w.heap.size]? = some (.cells a.cells.toArray 39) := Za
  have Zb : w0.drew.heap[w.heap.size + 1]? = some (.cells a.cells.toArray 43) := Zb
  have Zo : w0.drew.heap[w.heap.size + 1 + 1]? = some (.cells o.cells.toArray 53) := Zo
  have Zr : w0.drew.heap[w.heap.size + 1 + 1 + 1]? = some (.cells #[.int .u32 0, .int .i64 0, .int .i64 0, .bool false, .int .u32 0, .int .i64 0, .int .i64 0, .int .i64 0, .int .i64 0, .slice none 0 0, .slice none 0 0, .int .i64 0, .int .i64 0, .int .i64 0, .int .u64 0, .bool false] 39) := Zr
  have Zs : w0.drew.heap[w.heap.size + 1 + 1 + 1 + 1]? = some (.cells #[.int .u32 0, .int .i64 0, .int .i64 0, .bool false, .int .u32 0, .int .i64 0, .int .i64 0, .int .i64 0, .int .i64 0, .slice none 0 0, .slice none 0 0, .int .i64 0, .int .i64 0, .int .i64 0, .int .u64 0, .bool false] 43) := Zs
  have ee := belowDrewS ee
  generalize w0.drew = z1 at Za Zb Zo Zr Zs ee ⊢
  refine wpAnyH_take (i := 0) (v := .agg (a.cells).toArray) rfl (by kernel_rfl) (by kernel_rfl) (by kernel_rfl) (fun _ _ _ h => h) (yieldsIf_load_mid (by rfl) 39 _ rfl (w.heap.size) 0 rfl (a.cells) _ (fun _ h => h.1) Tryd.underlying39 rfl sizeAc) ⟨rowAt Za, rowAt Zb⟩ ?_
  try simp only [Act.put, List.getElem_toArray, List.getElem_cons_zero, List.getElem_cons_succ, List.setIfInBounds_toArray, List.set_cons_zero, List.set_cons_succ]
  refine wpAnyH_take (i := 1) (v := .agg (a.cells).toArray) rfl (by kernel_rfl) (by kernel_rfl) (by kernel_rfl) (fun _ _ _ h => h) (yieldsIf_load_mid (by rfl) 43 _ rfl (w.heap.size + 1) 0 rfl (a.cells) _ (fun _ h => h.2) Tryd.underlying43 rfl sizeRAc) ⟨rowAt Za, rowAt Zb⟩ ?_
  try simp only [Act.put, List.getElem_toArray, List.getElem_cons_zero, List.getElem_cons_succ, List.setIfInBounds_toArray, List.set_cons_zero, List.set_cons_succ]
  refine wpAnyH_ready (rs := [2]) (by kernel_rfl) (by simp) ?_
  refine AllReadyH.cons rfl (fun K hK => ?_) AllReadyH.nil
  rw [if_pos (by rfl)]
  refine wp_store_row 39 _ _ rfl (w.heap.size + 1 + 1 + 1) ((a).cells).toArray rfl rfl 39 _ Zr sizeAc (by rfl) (Ac.one _) ?_
  have N_ := setRow_heap z1 (w.heap.size + 1 + 1 + 1) _ ((a).cells).toArray _ _ Zr
  have ee := belowSet (cs := ((a).cells).toArray) ee Zr (by omega)
  have Za := hpR Za (g' := w.heap.size + 1 + 1 + 1) (by omega) ((a).cells).toArray
  have Zb := hpR Zb (g' := w.heap.size + 1 + 1 + 1) (by omega) ((a).cells).toArray
  have Zo := hpR Zo (g' := w.heap.size + 1 + 1 + 1) (by omega) ((a).cells).toArray
  have Zs := hpR Zs (g' := w.heap.size + 1 + 1 + 1) (by omega) ((a).cells).toArray
  clear Zr
  have Zr := N_
  clear N_
  generalize z1.setRow (w.heap.size + 1 + 1 + 1) ((a).cells).toArray = z2 at Za Zb Zo Zr Zs ee ⊢
  refine hK.out _ _ ⟨rowAt Za, rowAt Zb⟩ (fun hH => ?_)
  clear hK K hH
  try simp only [Act.put, List.getElem_toArray, List.getElem_cons_zero, List.getElem_cons_succ, List.setIfInBounds_toArray, List.set_cons_zero, List.set_cons_succ]
  refine wpAnyH_ready (rs := [3]) (by kernel_rfl) (by simp) ?_
  refine AllReadyH.cons rfl (fun K hK => ?_) AllReadyH.nil
  rw [if_pos (by rfl)]
  refine wp_store_row 43 _ _ rfl (w.heap.size + 1 + 1 + 1 + 1) ((a).cells).toArray rfl rfl 43 _ Zs sizeRAc (by rfl) (Ac.one _) ?_
  have N_ := setRow_heap z2 (w.heap.size + 1 + 1 + 1 + 1) _ ((a).cells).toArray _ _ Zs
  have ee := belowSet (cs := ((a).cells).toArray) ee Zs (by omega)
  have Za := hpR Za (g' := w.heap.size + 1 + 1 + 1 + 1) (by omega) ((a).cells).toArray
  have Zb := hpR Zb (g' := w.heap.size + 1 + 1 + 1 + 1) (by omega) ((a).cells).toArray
  have Zo := hpR Zo (g' := w.heap.size + 1 + 1 + 1 + 1) (by omega) ((a).cells).toArray
  have Zr := hpR Zr (g' := w.heap.size + 1 + 1 + 1 + 1) (by omega) ((a).cells).toArray
  clear Zs
  have Zs := N_
  clear N_
  generalize z2.setRow (w.heap.size + 1 + 1 + 1 + 1) ((a).cells).toArray = z3 at Za Zb Zo Zr Zs ee ⊢
  refine hK.out _ _ ⟨rowAt Za, rowAt Zb⟩ (fun hH => ?_)
  clear hK K hH
  try simp only [Act.put, List.getElem_toArray, List.getElem_cons_zero, List.getElem_cons_succ, List.setIfInBounds_toArray, List.set_cons_zero, List.set_cons_succ]
  refine wpAnyH_take (i := 4) (v := .bool true) rfl (by kernel_rfl) (by kernel_rfl) (by kernel_rfl) (fun _ _ _ h => h) (Or.inl ⟨by rfl, fun w_ hS_ => by (first | (go_simp; done) | (go_simp; rfl))⟩) ⟨rowAt Za, rowAt Zb⟩ ?_
  try simp only [Act.put, List.getElem_toArray, List.getElem_cons_zero, List.getElem_cons_succ, List.setIfInBounds_toArray, List.set_cons_zero, List.set_cons_succ]
  refine wpAnyH_done (by kernel_rfl) ?_ _
  go_wp2_with fail
  refine bodyPost_ret (v := .tuple #[.agg ((a).cells).toArray, .agg ((a).cells).toArray, .bool true]) (res_cct rfl rfl rfl rfl Zr Zs Tryd.underlying39 rfl sizeAc Tryd.underlying43 rfl sizeRAc) rfl ⟨rfl, ee⟩
theorem act_any (a : Ac) (o : AOp) (w : World) (B0 : Nat) (hB : B0 ≤ w.heap.size) (ok : CmOk w B0 a.c) (okx : CmOk w B0 o.x) (hT : Tabs w) :
    Calls Tryd.prog 18 #[.agg a.cells.toArray, .agg a.cells.toArray, .agg o.cells.toArray] w fun e w' => e = .returned (.tuple #[.agg (a.step o).cells.toArray, .agg (a.step o).cells.toArray, .bool true]) ∧ Below w.heap.size w w' := by
  unfold Ac.step
  by_cases h1 : o.k = 1
  · rw [if_pos h1]; exact act_1 a o w B0 hB ok okx hT h1
  · rw [if_neg h1]
    by_cases h2 : o.k = 2
    · rw [if_pos h2]; exact act_2 a o w B0 hB ok okx hT h2
    · rw [if_neg h2]
      by_cases h3 : o.k = 3
      · rw [if_pos h3]; exact act_3 a o w B0 hB ok okx hT h3
      · rw [if_neg h3]; exact act_0 a o w B0 hB ok okx hT h1 h2 h3
end Go.Proofs.YtbahooohkigcnaaDoor
