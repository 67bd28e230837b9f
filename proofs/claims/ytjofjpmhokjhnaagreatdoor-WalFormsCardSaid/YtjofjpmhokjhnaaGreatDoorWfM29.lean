import Derived.Test.YtjofjpmhokjhnaaGreatDoorWfM28
set_option linter.unusedSimpArgs false
set_option linter.unusedVariables false
namespace Go.Proofs.YtjofjpmhokjhnaaGreatDoor
set_option maxRecDepth 20000
open Go.RowKit T
namespace T
def Rc.rformed (x : Rc) : Bool := (bif ((decide (x.sl < 0) || decide (x.sl > 1000000)) || decide ((x.dt.length : Int) > 59900)) then false else (bif decide (x.kd = 1) then (((B.formed x.bn && decide (x.sl = 0)) && SameC x.c Cm.zero) && decide ((x.dt.length : Int) = 0)) else (bif decide (x.kd = 2) then ((B.formed x.bn && x.c.formed) && decide ((x.dt.length : Int) = 0)) else (bif decide (x.kd = 3) then ((decide (x.br = (0 : Nat) ∧ x.bn = 0) && x.c.formed) && decide ((x.dt.length : Int) = 0)) else (bif decide (x.kd = 4) then (decide (x.br = (0 : Nat) ∧ x.bn = 0) && SameC x.c Cm.zero) else false)))))
end T
set_option maxHeartbeats 25600000 in
theorem rwformed0 (x : Rc) (w : World) (B0 : Nat) (hB : B0 ≤ w.heap.size) (ok : RcOk w B0 x) :
 Calls Tryz.prog 14 #[.agg x.cells.toArray] w fun e w' => e = .returned (.bool (T.Rc.rformed x)) ∧ Below w.heap.size w w' := by
 have ee : Below w.heap.size w w := Below.refl _ _
 go_enter Tryz.func14, Tryz.ntmps14
 refine wp_seq_k fun K1 hK1 => ?_
 refine wp_region_lit ?_
 with_reducible refine ww (.pointer (some ⟨w.heap.size, 0, none⟩)) (w.alloc (.cells (x.cells).toArray 47)) ?_
 try simp only [zP]
 have sz_g2 := ee.size
 have sz_ := ee.size
 have ee := ee.alloc ee.size (.cells (x.cells).toArray 47)
 have Zb1 := hpN w (.cells (x.cells).toArray 47) rfl
 obtain ⟨z1, hz_⟩ : ∃ z_ : World, z_ = w.alloc (.cells (x.cells).toArray 47) := ⟨_, rfl⟩
 rw [← hz_] at Zb1 ee ⊢
 clear hz_
 obtain ⟨g2, hg_g2⟩ : ∃ g_, g_ = w.heap.size := ⟨_, rfl⟩
 have hB_g2 : w.heap.size ≤ g2 := by rw [hg_g2]; exact sz_g2
 rw [← hg_g2] at Zb1 ⊢
 clear hg_g2
 with_reducible refine wv (.bool false) ?_
 try simp only [zP]
 refine wpList_nil ?_
 refine hK1 _ _ ?_
 refine wp_seq_k fun K3 hK3 => ?_
 refine wp_region_lit ?_
 with_reducible
  refine wv (.pointer (some ⟨g2, 4, none⟩)) ?_
  refine wg (g2) (4) (x.c.cells) (rowMid Zb1 (4) (partOf 4 (by kernel_rfl))) Tryz.underlying45 ?_
  refine wv (.agg (Cm.zero.cells).toArray) ?_
  try simp only [zP]
  refine wc 49 #[.agg (x.c.cells).toArray, .agg (Cm.zero.cells).toArray] (rcs x.c Cm.zero z1 B0 (Nat.le_trans hB ee.size) (ok.c.below ee hB) CmOk.zero) ?_
 rintro e z2 ⟨rfl, t⟩
 refine ⟨_, rfl, ?_⟩
 have Zb1 := hpB Zb1 t
 have ee := ee.trans (t.mono ee.size)
 clear t
 generalize hb4 : SameC x.c Cm.zero = b4
 try simp only [zP]
 with_reducible refine wv (.bool b4) ?_
 try simp only [zP]
 refine wpList_nil ?_
 refine hK3 _ _ ?_
 refine wp_seq_k fun K5 hK5 => ?_
 refine wp_region_lit ?_
 with_reducible
  refine wv (.pointer (some ⟨g2, 1, none⟩)) ?_
  refine wg (g2) (1) ([.int .u32 (x.br : Int), .int .i64 x.bn]) (rowMid Zb1 (1) (partOf 1 (by kernel_rfl))) Tryz.underlying44 ?_
  refine wv (.agg ([.int .u32 ((0 : Nat) : Int), .int .i64 0]).toArray) ?_
 try simp only [zP]
 obtain ⟨b6, hb6⟩ : ∃ d_ : Bool, (decide (x.br = (0 : Nat) ∧ x.bn = 0)) = d_ := ⟨_, rfl⟩
 with_reducible
  refine wb (.bool b6) (.agg ([.int .u32 (x.br : Int), .int .i64 x.bn]).toArray) (.agg ([.int .u32 ((0 : Nat) : Int), .int .i64 0]).toArray) 44 (run_E (by have := B.run_eqRBal x.br x.bn ((0 : Nat)) 0 z2; rw [hb6] at this; exact this)) ?_
  refine wv (.bool b6) ?_
 try simp only [zP]
 refine wpList_nil ?_
 refine hK5 _ _ ?_
 refine wp_seq_k fun K7 hK7 => ?_
 refine wp_seq_k fun K8 hK8 => ?_
 refine wp_region_lit ?_
 with_reducible
  refine wv (.pointer (some ⟨g2, 3, none⟩)) ?_
  refine wl (.int .i64 x.sl) ⟨g2, 3, none⟩ (rowCell Zb1 (3) rfl) Tryz.underlying3 ?_
 try simp only [zP]
 obtain ⟨b9, hb9⟩ : ∃ d_ : Bool, (decide (x.sl < 0)) = d_ := ⟨_, rfl⟩
 with_reducible
  refine wb (.bool b9) (.int .i64 x.sl) (.int .i64 0) 3 (run_lssI hb9) ?_
  refine wv (.bool b9) ?_
 try simp only [zP]
 cases b9
 ·have pb9 : ¬ (x.sl < 0) := of_decide_eq_false hb9
  with_reducible
   refine wv (.pointer (some ⟨g2, 3, none⟩)) ?_
   refine wl (.int .i64 x.sl) ⟨g2, 3, none⟩ (rowCell Zb1 (3) rfl) Tryz.underlying3 ?_
  try simp only [zP]
  obtain ⟨b10, hb10⟩ : ∃ d_ : Bool, (decide (x.sl > 1000000)) = d_ := ⟨_, rfl⟩
  with_reducible refine wb (.bool b10) (.int .i64 x.sl) (.int .i64 1000000) 3 (run_gtrI hb10) ?_
  iterate 2 (with_reducible refine wv (.bool b10) ?_)
  try simp only [zP]
  cases b10
  ·have pb10 : ¬ (x.sl > 1000000) := of_decide_eq_false hb10
   with_reducible
    refine wv (.pointer (some ⟨g2, 14, none⟩)) ?_
    refine wl (.slice x.D x.dt.length x.dc) ⟨g2, 14, none⟩ (rowCell Zb1 (14) rfl) Tryz.underlying34 ?_
    refine wv (.int .i64 ((x.dt.length : Int))) ?_
   try simp only [zP]
   obtain ⟨b11, hb11⟩ : ∃ d_ : Bool, (decide ((x.dt.length : Int) > 59900)) = d_ := ⟨_, rfl⟩
   with_reducible
    refine wb (.bool b11) (.int .i64 ((x.dt.length : Int))) (.int .i64 59900) 3 (run_gtrI hb11) ?_
    refine wv (.bool b11) ?_
   try simp only [zP]
   refine wpList_nil ?_
   refine hK8 _ _ ?_
   cases b11
   ·have pb11 : ¬ ((x.dt.length : Int) > 59900) := of_decide_eq_false hb11
    refine wp_cond_false (by kernel_rfl) ?_
    refine wp_skip ?_
    refine hK7 _ _ ?_
    refine wp_seq_k fun K12 hK12 => ?_
    refine wp_seq_k fun K13 hK13 => ?_
    refine wp_region_lit ?_
    with_reducible
     refine wv (.pointer (some ⟨g2, 0, none⟩)) ?_
     refine wl (.int .i64 x.kd) ⟨g2, 0, none⟩ (rowCell Zb1 (0) rfl) Tryz.underlying3 ?_
    try simp only [zP]
    refine wpList_nil ?_
    refine hK13 _ _ ?_
    refine wp_block ?_
    refine wp_seq_k fun K14 hK14 => ?_
    refine wp_region_lit ?_
    obtain ⟨b15, hb15⟩ : ∃ d_ : Bool, (decide (x.kd = 1)) = d_ := ⟨_, rfl⟩
    with_reducible
     refine wb (.bool b15) (.int .i64 x.kd) (.int .i64 1) 3 (run_eqlI hb15) ?_
     refine wv (.bool b15) ?_
    try simp only [zP]
    refine wpList_nil ?_
    refine hK14 _ _ ?_
    cases b15
    ·have pb15 : ¬ (x.kd = 1) := of_decide_eq_false hb15
     refine wp_cond_false (by kernel_rfl) ?_
     refine wp_seq_k fun K16 hK16 => ?_
     refine wp_region_lit ?_
     obtain ⟨b17, hb17⟩ : ∃ d_ : Bool, (decide (x.kd = 2)) = d_ := ⟨_, rfl⟩
     with_reducible
      refine wb (.bool b17) (.int .i64 x.kd) (.int .i64 2) 3 (run_eqlI hb17) ?_
      refine wv (.bool b17) ?_
     try simp only [zP]
     refine wpList_nil ?_
     refine hK16 _ _ ?_
     cases b17
     ·have pb17 : ¬ (x.kd = 2) := of_decide_eq_false hb17
      refine wp_cond_false (by kernel_rfl) ?_
      refine wp_seq_k fun K18 hK18 => ?_
      refine wp_region_lit ?_
      obtain ⟨b19, hb19⟩ : ∃ d_ : Bool, (decide (x.kd = 3)) = d_ := ⟨_, rfl⟩
      with_reducible
       refine wb (.bool b19) (.int .i64 x.kd) (.int .i64 3) 3 (run_eqlI hb19) ?_
       refine wv (.bool b19) ?_
      try simp only [zP]
      refine wpList_nil ?_
      refine hK18 _ _ ?_
      cases b19
      ·have pb19 : ¬ (x.kd = 3) := of_decide_eq_false hb19
       refine wp_cond_false (by kernel_rfl) ?_
       refine wp_seq_k fun K20 hK20 => ?_
       refine wp_region_lit ?_
       obtain ⟨b21, hb21⟩ : ∃ d_ : Bool, (decide (x.kd = 4)) = d_ := ⟨_, rfl⟩
       with_reducible
        refine wb (.bool b21) (.int .i64 x.kd) (.int .i64 4) 3 (run_eqlI hb21) ?_
        refine wv (.bool b21) ?_
       try simp only [zP]
       refine wpList_nil ?_
       refine hK20 _ _ ?_
       cases b21
       ·have pb21 : ¬ (x.kd = 4) := of_decide_eq_false hb21
        refine wp_cond_false (by kernel_rfl) ?_
        refine wp_skip ?_
        refine inBlock_normal ?_
        refine hK12 _ _ ?_
        refine wp_seq_k fun K22 hK22 => ?_
        refine wp_region_lit ?_
        with_reducible refine wv (.bool false) ?_
        try simp only [zP]
        refine wpList_nil ?_
        refine hK22 _ _ ?_
        refine wp_ret ?_
        exact bodyPost_ret (v := .bool false) (by kernel_rfl) rfl ⟨congrArg (fun b => Ending.returned (.bool b)) (show false = T.Rc.rformed x from by unfold T.Rc.rformed; first | (simp only [hb9, hb10, hb11, hb15, hb17, hb19, hb21]; done) | (simp only [hb9, hb10, hb11, hb15, hb17, hb19, hb21]; rfl) | simp [hb9, hb10, hb11, hb15, hb17, hb19, hb21]), ee⟩
       have pb21 : x.kd = 4 := of_decide_eq_true hb21
       have eb21 : x.kd = 4 := of_decide_eq_true hb21
       refine wp_cond_true (by kernel_rfl) ?_
       refine wp_seq_k fun K23 hK23 => ?_
       refine wp_region_lit ?_
       iterate 2 (with_reducible refine wv (.bool b6) ?_)
       try simp only [zP]
       cases b6
       ·with_reducible refine wk ?_
        try simp only [zP]
        iterate 2 (with_reducible refine wv (.bool false) ?_)
        try simp only [zP]
        refine wpList_nil ?_
        refine hK23 _ _ ?_
        refine wp_ret ?_
        refine inBlock_ret ?_
        refine then_ret ?_
        exact bodyPost_ret (v := .bool false) (by kernel_rfl) rfl ⟨congrArg (fun b => Ending.returned (.bool b)) (show false = T.Rc.rformed x from by unfold T.Rc.rformed; first | (simp only [hb9, hb10, hb11, hb15, hb17, hb19, hb21, hb6]; done) | (simp only [hb9, hb10, hb11, hb15, hb17, hb19, hb21, hb6]; rfl) | simp [hb9, hb10, hb11, hb15, hb17, hb19, hb21, hb6]), ee⟩
       iterate 3 (with_reducible refine wv (.bool b4) ?_)
       try simp only [zP]
       refine wpList_nil ?_
       refine hK23 _ _ ?_
       refine wp_ret ?_
       refine inBlock_ret ?_
       refine then_ret ?_
       cases b4
       ·exact bodyPost_ret (v := .bool false) (by kernel_rfl) rfl ⟨congrArg (fun b => Ending.returned (.bool b)) (show false = T.Rc.rformed x from by unfold T.Rc.rformed; first | (simp only [hb9, hb10, hb11, hb15, hb17, hb19, hb21, hb6, hb4]; done) | (simp only [hb9, hb10, hb11, hb15, hb17, hb19, hb21, hb6, hb4]; rfl) | simp [hb9, hb10, hb11, hb15, hb17, hb19, hb21, hb6, hb4]), ee⟩
       exact bodyPost_ret (v := .bool true) (by kernel_rfl) rfl ⟨congrArg (fun b => Ending.returned (.bool b)) (show true = T.Rc.rformed x from by unfold T.Rc.rformed; first | (simp only [hb9, hb10, hb11, hb15, hb17, hb19, hb21, hb6, hb4]; done) | (simp only [hb9, hb10, hb11, hb15, hb17, hb19, hb21, hb6, hb4]; rfl) | simp [hb9, hb10, hb11, hb15, hb17, hb19, hb21, hb6, hb4]), ee⟩
      have pb19 : x.kd = 3 := of_decide_eq_true hb19
      have eb19 : x.kd = 3 := of_decide_eq_true hb19
      refine wp_cond_true (by kernel_rfl) ?_
      refine wp_seq_k fun K24 hK24 => ?_
      refine wp_region_lit ?_
      iterate 2 (with_reducible refine wv (.bool b6) ?_)
      try simp only [zP]
      cases b6
      ·with_reducible refine wk ?_
       try simp only [zP]
       iterate 2 (with_reducible refine wk ?_)
       iterate 2 (with_reducible refine wv (.bool false) ?_)
       iterate 4 (with_reducible refine wk ?_)
       iterate 2 (with_reducible refine wv (.bool false) ?_)
       try simp only [zP]
       refine wpList_nil ?_
       refine hK24 _ _ ?_
       refine wp_ret ?_
       refine inBlock_ret ?_
       refine then_ret ?_
       exact bodyPost_ret (v := .bool false) (by kernel_rfl) rfl ⟨congrArg (fun b => Ending.returned (.bool b)) (show false = T.Rc.rformed x from by unfold T.Rc.rformed; first | (simp only [hb9, hb10, hb11, hb15, hb17, hb19, hb6]; done) | (simp only [hb9, hb10, hb11, hb15, hb17, hb19, hb6]; rfl) | simp [hb9, hb10, hb11, hb15, hb17, hb19, hb6]), ee⟩
      with_reducible
       refine wv (.pointer (some ⟨g2, 4, none⟩)) ?_
       refine wg (g2) (4) (x.c.cells) (rowMid Zb1 (4) (partOf 4 (by kernel_rfl))) Tryz.underlying45 ?_
       try simp only [zP]
       refine wc 51 #[.agg (x.c.cells).toArray] (rcf x.c z2 B0 (Nat.le_trans hB ee.size) (ok.c.below ee hB)) ?_
      rintro e z3 ⟨rfl, t⟩
      refine ⟨_, rfl, ?_⟩
      have Zb1 := hpB Zb1 t
      have ee := ee.trans (t.mono ee.size)
      clear t
      generalize hb25 : x.c.formed = b25
      try simp only [zP]
      iterate 2 (with_reducible refine wv (.bool b25) ?_)
      try simp only [zP]
      cases b25
      ·with_reducible refine wk ?_
       try simp only [zP]
       iterate 3 (with_reducible refine wk ?_)
       iterate 2 (with_reducible refine wv (.bool false) ?_)
       try simp only [zP]
       refine wpList_nil ?_
       refine hK24 _ _ ?_
       refine wp_ret ?_
       refine inBlock_ret ?_
       refine then_ret ?_
       exact bodyPost_ret (v := .bool false) (by kernel_rfl) rfl ⟨congrArg (fun b => Ending.returned (.bool b)) (show false = T.Rc.rformed x from by unfold T.Rc.rformed; first | (simp only [hb9, hb10, hb11, hb15, hb17, hb19, hb6, hb25]; done) | (simp only [hb9, hb10, hb11, hb15, hb17, hb19, hb6, hb25]; rfl) | simp [hb9, hb10, hb11, hb15, hb17, hb19, hb6, hb25]), ee⟩
      with_reducible
       refine wv (.pointer (some ⟨g2, 14, none⟩)) ?_
       refine wl (.slice x.D x.dt.length x.dc) ⟨g2, 14, none⟩ (rowCell Zb1 (14) rfl) Tryz.underlying34 ?_
       refine wv (.int .i64 ((x.dt.length : Int))) ?_
      try simp only [zP]
      obtain ⟨b26, hb26⟩ : ∃ d_ : Bool, (decide ((x.dt.length : Int) = 0)) = d_ := ⟨_, rfl⟩
      with_reducible refine wb (.bool b26) (.int .i64 ((x.dt.length : Int))) (.int .i64 0) 3 (run_eqlI hb26) ?_
      iterate 2 (with_reducible refine wv (.bool b26) ?_)
      try simp only [zP]
      refine wpList_nil ?_
      refine hK24 _ _ ?_
      refine wp_ret ?_
      refine inBlock_ret ?_
      refine then_ret ?_
      cases b26
      ·have pb26 : ¬ ((x.dt.length : Int) = 0) := of_decide_eq_false hb26
       exact bodyPost_ret (v := .bool false) (by kernel_rfl) rfl ⟨congrArg (fun b => Ending.returned (.bool b)) (show false = T.Rc.rformed x from by unfold T.Rc.rformed; first | (simp only [hb9, hb10, hb11, hb15, hb17, hb19, hb6, hb25, hb26]; done) | (simp only [hb9, hb10, hb11, hb15, hb17, hb19, hb6, hb25, hb26]; rfl) | simp [hb9, hb10, hb11, hb15, hb17, hb19, hb6, hb25, hb26]), ee⟩
      have pb26 : (x.dt.length : Int) = 0 := of_decide_eq_true hb26
      have eb26 : (x.dt.length : Int) = 0 := of_decide_eq_true hb26
      exact bodyPost_ret (v := .bool true) (by kernel_rfl) rfl ⟨congrArg (fun b => Ending.returned (.bool b)) (show true = T.Rc.rformed x from by unfold T.Rc.rformed; first | (simp only [hb9, hb10, hb11, hb15, hb17, hb19, hb6, hb25, hb26]; done) | (simp only [hb9, hb10, hb11, hb15, hb17, hb19, hb6, hb25, hb26]; rfl) | simp [hb9, hb10, hb11, hb15, hb17, hb19, hb6, hb25, hb26]), ee⟩
     have pb17 : x.kd = 2 := of_decide_eq_true hb17
     have eb17 : x.kd = 2 := of_decide_eq_true hb17
     refine wp_cond_true (by kernel_rfl) ?_
     refine wp_seq_k fun K27 hK27 => ?_
     refine wp_region_lit ?_
     with_reducible
      refine wv (.pointer (some ⟨g2, 1, none⟩)) ?_
      refine wg (g2) (1) ([.int .u32 (x.br : Int), .int .i64 x.bn]) (rowMid Zb1 (1) (partOf 1 (by kernel_rfl))) Tryz.underlying44 ?_
      try simp only [zP]
      refine wc 50 #[.agg ([.int .u32 (x.br : Int), .int .i64 x.bn]).toArray] (rbf x.br x.bn z2) ?_
     rintro e z3 ⟨rfl, t⟩
     refine ⟨_, rfl, ?_⟩
     have Zb1 := hpB Zb1 t
     have ee := ee.trans (t.mono ee.size)
     clear t
     generalize hb28 : B.formed x.bn = b28
     try simp only [zP]
     with_reducible refine wv (.bool b28) ?_
     try simp only [zP]
     cases b28
     ·with_reducible refine wk ?_
      try simp only [zP]
      iterate 2 (with_reducible refine wk ?_)
      iterate 2 (with_reducible refine wv (.bool false) ?_)
      iterate 4 (with_reducible refine wk ?_)
      iterate 2 (with_reducible refine wv (.bool false) ?_)
      try simp only [zP]
      refine wpList_nil ?_
      refine hK27 _ _ ?_
      refine wp_ret ?_
      refine inBlock_ret ?_
      refine then_ret ?_
      exact bodyPost_ret (v := .bool false) (by kernel_rfl) rfl ⟨congrArg (fun b => Ending.returned (.bool b)) (show false = T.Rc.rformed x from by unfold T.Rc.rformed; first | (simp only [hb9, hb10, hb11, hb15, hb17, hb28]; done) | (simp only [hb9, hb10, hb11, hb15, hb17, hb28]; rfl) | simp [hb9, hb10, hb11, hb15, hb17, hb28]), ee⟩
     with_reducible
      refine wv (.pointer (some ⟨g2, 4, none⟩)) ?_
      refine wg (g2) (4) (x.c.cells) (rowMid Zb1 (4) (partOf 4 (by kernel_rfl))) Tryz.underlying45 ?_
      try simp only [zP]
      refine wc 51 #[.agg (x.c.cells).toArray] (rcf x.c z3 B0 (Nat.le_trans hB ee.size) (ok.c.below ee hB)) ?_
     rintro e z4 ⟨rfl, t⟩
     refine ⟨_, rfl, ?_⟩
     have Zb1 := hpB Zb1 t
     have ee := ee.trans (t.mono ee.size)
     clear t
     generalize hb29 : x.c.formed = b29
     try simp only [zP]
     iterate 2 (with_reducible refine wv (.bool b29) ?_)
     try simp only [zP]
     cases b29
     ·with_reducible refine wk ?_
      try simp only [zP]
      iterate 3 (with_reducible refine wk ?_)
      iterate 2 (with_reducible refine wv (.bool false) ?_)
      try simp only [zP]
      refine wpList_nil ?_
      refine hK27 _ _ ?_
      refine wp_ret ?_
      refine inBlock_ret ?_
      refine then_ret ?_
      exact bodyPost_ret (v := .bool false) (by kernel_rfl) rfl ⟨congrArg (fun b => Ending.returned (.bool b)) (show false = T.Rc.rformed x from by unfold T.Rc.rformed; first | (simp only [hb9, hb10, hb11, hb15, hb17, hb28, hb29]; done) | (simp only [hb9, hb10, hb11, hb15, hb17, hb28, hb29]; rfl) | simp [hb9, hb10, hb11, hb15, hb17, hb28, hb29]), ee⟩
     with_reducible
      refine wv (.pointer (some ⟨g2, 14, none⟩)) ?_
      refine wl (.slice x.D x.dt.length x.dc) ⟨g2, 14, none⟩ (rowCell Zb1 (14) rfl) Tryz.underlying34 ?_
      refine wv (.int .i64 ((x.dt.length : Int))) ?_
     try simp only [zP]
     obtain ⟨b30, hb30⟩ : ∃ d_ : Bool, (decide ((x.dt.length : Int) = 0)) = d_ := ⟨_, rfl⟩
     with_reducible refine wb (.bool b30) (.int .i64 ((x.dt.length : Int))) (.int .i64 0) 3 (run_eqlI hb30) ?_
     iterate 2 (with_reducible refine wv (.bool b30) ?_)
     try simp only [zP]
     refine wpList_nil ?_
     refine hK27 _ _ ?_
     refine wp_ret ?_
     refine inBlock_ret ?_
     refine then_ret ?_
     cases b30
     ·have pb30 : ¬ ((x.dt.length : Int) = 0) := of_decide_eq_false hb30
      exact bodyPost_ret (v := .bool false) (by kernel_rfl) rfl ⟨congrArg (fun b => Ending.returned (.bool b)) (show false = T.Rc.rformed x from by unfold T.Rc.rformed; first | (simp only [hb9, hb10, hb11, hb15, hb17, hb28, hb29, hb30]; done) | (simp only [hb9, hb10, hb11, hb15, hb17, hb28, hb29, hb30]; rfl) | simp [hb9, hb10, hb11, hb15, hb17, hb28, hb29, hb30]), ee⟩
     have pb30 : (x.dt.length : Int) = 0 := of_decide_eq_true hb30
     have eb30 : (x.dt.length : Int) = 0 := of_decide_eq_true hb30
     exact bodyPost_ret (v := .bool true) (by kernel_rfl) rfl ⟨congrArg (fun b => Ending.returned (.bool b)) (show true = T.Rc.rformed x from by unfold T.Rc.rformed; first | (simp only [hb9, hb10, hb11, hb15, hb17, hb28, hb29, hb30]; done) | (simp only [hb9, hb10, hb11, hb15, hb17, hb28, hb29, hb30]; rfl) | simp [hb9, hb10, hb11, hb15, hb17, hb28, hb29, hb30]), ee⟩
    have pb15 : x.kd = 1 := of_decide_eq_true hb15
    have eb15 : x.kd = 1 := of_decide_eq_true hb15
    refine wp_cond_true (by kernel_rfl) ?_
    refine wp_seq_k fun K31 hK31 => ?_
    refine wp_region_lit ?_
    with_reducible
     refine wv (.pointer (some ⟨g2, 1, none⟩)) ?_
     refine wg (g2) (1) ([.int .u32 (x.br : Int), .int .i64 x.bn]) (rowMid Zb1 (1) (partOf 1 (by kernel_rfl))) Tryz.underlying44 ?_
     try simp only [zP]
     refine wc 50 #[.agg ([.int .u32 (x.br : Int), .int .i64 x.bn]).toArray] (rbf x.br x.bn z2) ?_
    rintro e z3 ⟨rfl, t⟩
    refine ⟨_, rfl, ?_⟩
    have Zb1 := hpB Zb1 t
    have ee := ee.trans (t.mono ee.size)
    clear t
    generalize hb32 : B.formed x.bn = b32
    try simp only [zP]
    with_reducible refine wv (.bool b32) ?_
    try simp only [zP]
    cases b32
    ·with_reducible refine wk ?_
     try simp only [zP]
     iterate 2 (with_reducible refine wk ?_)
     with_reducible
      iterate 2 ((refine wv (.bool false) ?_);(refine wv (.bool false) ?_);(refine wk ?_))
     iterate 3 (with_reducible refine wk ?_)
     iterate 2 (with_reducible refine wv (.bool false) ?_)
     try simp only [zP]
     refine wpList_nil ?_
     refine hK31 _ _ ?_
     refine wp_ret ?_
     refine inBlock_ret ?_
     refine then_ret ?_
     exact bodyPost_ret (v := .bool false) (by kernel_rfl) rfl ⟨congrArg (fun b => Ending.returned (.bool b)) (show false = T.Rc.rformed x from by unfold T.Rc.rformed; first | (simp only [hb9, hb10, hb11, hb15, hb32]; done) | (simp only [hb9, hb10, hb11, hb15, hb32]; rfl) | simp [hb9, hb10, hb11, hb15, hb32]), ee⟩
    with_reducible
     refine wv (.pointer (some ⟨g2, 3, none⟩)) ?_
     refine wl (.int .i64 x.sl) ⟨g2, 3, none⟩ (rowCell Zb1 (3) rfl) Tryz.underlying3 ?_
    try simp only [zP]
    obtain ⟨b33, hb33⟩ : ∃ d_ : Bool, (decide (x.sl = 0)) = d_ := ⟨_, rfl⟩
    with_reducible refine wb (.bool b33) (.int .i64 x.sl) (.int .i64 0) 3 (run_eqlI hb33) ?_
    iterate 2 (with_reducible refine wv (.bool b33) ?_)
    try simp only [zP]
    cases b33
    ·have pb33 : ¬ (x.sl = 0) := of_decide_eq_false hb33
     with_reducible refine wk ?_
     iterate 2 (with_reducible refine wv (.bool false) ?_)
     iterate 4 (with_reducible refine wk ?_)
     iterate 2 (with_reducible refine wv (.bool false) ?_)
     try simp only [zP]
     refine wpList_nil ?_
     refine hK31 _ _ ?_
     refine wp_ret ?_
     refine inBlock_ret ?_
     refine then_ret ?_
     exact bodyPost_ret (v := .bool false) (by kernel_rfl) rfl ⟨congrArg (fun b => Ending.returned (.bool b)) (show false = T.Rc.rformed x from by unfold T.Rc.rformed; first | (simp only [hb9, hb10, hb11, hb15, hb32, hb33]; done) | (simp only [hb9, hb10, hb11, hb15, hb32, hb33]; rfl) | simp [hb9, hb10, hb11, hb15, hb32, hb33]), ee⟩
    have pb33 : x.sl = 0 := of_decide_eq_true hb33
    have eb33 : x.sl = 0 := of_decide_eq_true hb33
    iterate 3 (with_reducible refine wv (.bool b4) ?_)
    try simp only [zP]
    cases b4
    ·with_reducible refine wk ?_
     try simp only [zP]
     iterate 3 (with_reducible refine wk ?_)
     iterate 2 (with_reducible refine wv (.bool false) ?_)
     try simp only [zP]
     refine wpList_nil ?_
     refine hK31 _ _ ?_
     refine wp_ret ?_
     refine inBlock_ret ?_
     refine then_ret ?_
     exact bodyPost_ret (v := .bool false) (by kernel_rfl) rfl ⟨congrArg (fun b => Ending.returned (.bool b)) (show false = T.Rc.rformed x from by unfold T.Rc.rformed; first | (simp only [hb9, hb10, hb11, hb15, hb32, hb33, hb4]; done) | (simp only [hb9, hb10, hb11, hb15, hb32, hb33, hb4]; rfl) | simp [hb9, hb10, hb11, hb15, hb32, hb33, hb4]), ee⟩
    with_reducible
     refine wv (.pointer (some ⟨g2, 14, none⟩)) ?_
     refine wl (.slice x.D x.dt.length x.dc) ⟨g2, 14, none⟩ (rowCell Zb1 (14) rfl) Tryz.underlying34 ?_
     refine wv (.int .i64 ((x.dt.length : Int))) ?_
    try simp only [zP]
    obtain ⟨b34, hb34⟩ : ∃ d_ : Bool, (decide ((x.dt.length : Int) = 0)) = d_ := ⟨_, rfl⟩
    with_reducible refine wb (.bool b34) (.int .i64 ((x.dt.length : Int))) (.int .i64 0) 3 (run_eqlI hb34) ?_
    iterate 2 (with_reducible refine wv (.bool b34) ?_)
    try simp only [zP]
    refine wpList_nil ?_
    refine hK31 _ _ ?_
    refine wp_ret ?_
    refine inBlock_ret ?_
    refine then_ret ?_
    cases b34
    ·have pb34 : ¬ ((x.dt.length : Int) = 0) := of_decide_eq_false hb34
     exact bodyPost_ret (v := .bool false) (by kernel_rfl) rfl ⟨congrArg (fun b => Ending.returned (.bool b)) (show false = T.Rc.rformed x from by unfold T.Rc.rformed; first | (simp only [hb9, hb10, hb11, hb15, hb32, hb33, hb4, hb34]; done) | (simp only [hb9, hb10, hb11, hb15, hb32, hb33, hb4, hb34]; rfl) | simp [hb9, hb10, hb11, hb15, hb32, hb33, hb4, hb34]), ee⟩
    have pb34 : (x.dt.length : Int) = 0 := of_decide_eq_true hb34
    have eb34 : (x.dt.length : Int) = 0 := of_decide_eq_true hb34
    exact bodyPost_ret (v := .bool true) (by kernel_rfl) rfl ⟨congrArg (fun b => Ending.returned (.bool b)) (show true = T.Rc.rformed x from by unfold T.Rc.rformed; first | (simp only [hb9, hb10, hb11, hb15, hb32, hb33, hb4, hb34]; done) | (simp only [hb9, hb10, hb11, hb15, hb32, hb33, hb4, hb34]; rfl) | simp [hb9, hb10, hb11, hb15, hb32, hb33, hb4, hb34]), ee⟩
   have pb11 : (x.dt.length : Int) > 59900 := of_decide_eq_true hb11
   refine wp_cond_true (by kernel_rfl) ?_
   refine wp_seq_k fun K35 hK35 => ?_
   refine wp_region_lit ?_
   with_reducible refine wv (.bool false) ?_
   try simp only [zP]
   refine wpList_nil ?_
   refine hK35 _ _ ?_
   refine wp_ret ?_
   refine then_ret ?_
   exact bodyPost_ret (v := .bool false) (by kernel_rfl) rfl ⟨congrArg (fun b => Ending.returned (.bool b)) (show false = T.Rc.rformed x from by unfold T.Rc.rformed; first | (simp only [hb9, hb10, hb11]; done) | (simp only [hb9, hb10, hb11]; rfl) | simp [hb9, hb10, hb11]), ee⟩
  have pb10 : x.sl > 1000000 := of_decide_eq_true hb10
  iterate 4 (with_reducible refine wk ?_)
  with_reducible refine wv (.bool true) ?_
  try simp only [zP]
  refine wpList_nil ?_
  refine hK8 _ _ ?_
  refine wp_cond_true (by kernel_rfl) ?_
  refine wp_seq_k fun K36 hK36 => ?_
  refine wp_region_lit ?_
  with_reducible refine wv (.bool false) ?_
  try simp only [zP]
  refine wpList_nil ?_
  refine hK36 _ _ ?_
  refine wp_ret ?_
  refine then_ret ?_
  exact bodyPost_ret (v := .bool false) (by kernel_rfl) rfl ⟨congrArg (fun b => Ending.returned (.bool b)) (show false = T.Rc.rformed x from by unfold T.Rc.rformed; first | (simp only [hb9, hb10]; done) | (simp only [hb9, hb10]; rfl) | simp [hb9, hb10]), ee⟩
 have pb9 : x.sl < 0 := of_decide_eq_true hb9
 iterate 3 (with_reducible refine wk ?_)
 iterate 2 (with_reducible refine wv (.bool true) ?_)
 iterate 4 (with_reducible refine wk ?_)
 with_reducible refine wv (.bool true) ?_
 try simp only [zP]
 refine wpList_nil ?_
 refine hK8 _ _ ?_
 refine wp_cond_true (by kernel_rfl) ?_
 refine wp_seq_k fun K37 hK37 => ?_
 refine wp_region_lit ?_
 with_reducible refine wv (.bool false) ?_
 try simp only [zP]
 refine wpList_nil ?_
 refine hK37 _ _ ?_
 refine wp_ret ?_
 refine then_ret ?_
 exact bodyPost_ret (v := .bool false) (by kernel_rfl) rfl ⟨congrArg (fun b => Ending.returned (.bool b)) (show false = T.Rc.rformed x from by unfold T.Rc.rformed; first | (simp only [hb9]; done) | (simp only [hb9]; rfl) | simp [hb9]), ee⟩
end Go.Proofs.YtjofjpmhokjhnaaGreatDoor
