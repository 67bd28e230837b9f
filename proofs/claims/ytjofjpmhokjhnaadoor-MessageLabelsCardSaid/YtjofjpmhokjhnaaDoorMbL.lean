/- The law MessageLabels. No condition. -/
import Derived.Test.YtjofjpmhokjhnaaDoorMbM33
import Derived.Test.YtjofjpmhokjhnaaDoorMbM34
namespace Go.Proofs.YtjofjpmhokjhnaaDoor
set_option maxRecDepth 20000
open Go.RowKit T
set_option linter.unusedSimpArgs false
set_option linter.unusedVariables false
section
variable {P : Program} {ops : Array Oper} {rest : List Oper} {o : Oper} {a : Act} {w : World} {Q : Exit → Act → World → Prop} {t : TypeId}
theorem inBlock_ret {id : Nat} (h : Q .ret a w) : Exit.inBlock id Q .ret a w := h
theorem run_E {op : BinOp} {va vb v : Value} (h : (binOp op t va vb).run P w = .ok v w) : (binOp op t va vb).run P w = .ok v w := h
end
def T.label (k s q i j : Int) : Int × Int := if k = 1 then (s, q) else if k = 2 ∨ k = 3 then (i, j) else (0, 0)
set_option maxHeartbeats 1600000 in
theorem clabel_1 (s q : Int) (rs : List Rd1) (ws : List Wr1) (A1 : Option Addr) (c1 : Nat) (A2 : Option Addr) (c2 : Nat) (i j g : Int) (st : Nat) (y : Bool) (w : World) :
    Calls Tryd.prog 38 #[.agg #[.int .i64 1, .int .i64 s, .int .i64 q, .slice A1 rs.length c1, .slice A2 ws.length c2, .int .i64 i, .int .i64 j, .int .i64 g, .int .u64 (st : Int), .bool y]] w fun e w' => e = .returned (.agg #[.int .i64 s, .int .i64 q]) ∧ Below w.heap.size w w' := by
  generalize rs.length = n1
  generalize ws.length = n2
  have g0 : Below w.heap.size w (((w.alloc (.cells #[.int .i64 1, .int .i64 s, .int .i64 q, .slice A1 n1 c1, .slice A2 n2 c2, .int .i64 i, .int .i64 j, .int .i64 g, .int .u64 (st : Int), .bool y] 33)).alloc (.cells #[.int .i64 0, .int .i64 0] 26))) := ((Below.refl _ _).alloc (Nat.le_refl _) _).alloc (by simp) _
  have Z := setAt (setAt (heap_alloc_new (w.alloc (.cells #[.int .i64 1, .int .i64 s, .int .i64 q, .slice A1 n1 c1, .slice A2 n2 c2, .int .i64 i, .int .i64 j, .int .i64 g, .int .u64 (st : Int), .bool y] 33)) (.cells #[.int .i64 0, .int .i64 0] 26)) 0 (.int .i64 s)) 1 (.int .i64 q)
  have r0 := cellAt Z 0
  have r1 := cellAt Z 1
  simp at r0 r1
  go_enter Tryd.func38, Tryd.ntmps38
  go_wp2_with fail
  refine bodyPost_ret (v := .agg #[.int .i64 s, .int .i64 q]) (by simp [results, Tryd.results38, go_sem, r0, r1]) rfl ⟨rfl, ?_⟩
  exact ((Below.refl _ _).alloc (Nat.le_refl _) _).alloc (by simp) _
set_option maxHeartbeats 1600000 in
theorem clabel_2 (s q : Int) (rs : List Rd1) (ws : List Wr1) (A1 : Option Addr) (c1 : Nat) (A2 : Option Addr) (c2 : Nat) (i j g : Int) (st : Nat) (y : Bool) (w : World) :
    Calls Tryd.prog 38 #[.agg #[.int .i64 2, .int .i64 s, .int .i64 q, .slice A1 rs.length c1, .slice A2 ws.length c2, .int .i64 i, .int .i64 j, .int .i64 g, .int .u64 (st : Int), .bool y]] w fun e w' => e = .returned (.agg #[.int .i64 i, .int .i64 j]) ∧ Below w.heap.size w w' := by
  generalize rs.length = n1
  generalize ws.length = n2
  have g0 : Below w.heap.size w (((w.alloc (.cells #[.int .i64 2, .int .i64 s, .int .i64 q, .slice A1 n1 c1, .slice A2 n2 c2, .int .i64 i, .int .i64 j, .int .i64 g, .int .u64 (st : Int), .bool y] 33)).alloc (.cells #[.int .i64 0, .int .i64 0] 26))) := ((Below.refl _ _).alloc (Nat.le_refl _) _).alloc (by simp) _
  have Z := setAt (setAt (heap_alloc_new (w.alloc (.cells #[.int .i64 2, .int .i64 s, .int .i64 q, .slice A1 n1 c1, .slice A2 n2 c2, .int .i64 i, .int .i64 j, .int .i64 g, .int .u64 (st : Int), .bool y] 33)) (.cells #[.int .i64 0, .int .i64 0] 26)) 0 (.int .i64 i)) 1 (.int .i64 j)
  have r0 := cellAt Z 0
  have r1 := cellAt Z 1
  simp at r0 r1
  go_enter Tryd.func38, Tryd.ntmps38
  go_wp2_with fail
  refine bodyPost_ret (v := .agg #[.int .i64 i, .int .i64 j]) (by simp [results, Tryd.results38, go_sem, r0, r1]) rfl ⟨rfl, ?_⟩
  exact ((Below.refl _ _).alloc (Nat.le_refl _) _).alloc (by simp) _
set_option maxHeartbeats 1600000 in
theorem clabel_3 (s q : Int) (rs : List Rd1) (ws : List Wr1) (A1 : Option Addr) (c1 : Nat) (A2 : Option Addr) (c2 : Nat) (i j g : Int) (st : Nat) (y : Bool) (w : World) :
    Calls Tryd.prog 38 #[.agg #[.int .i64 3, .int .i64 s, .int .i64 q, .slice A1 rs.length c1, .slice A2 ws.length c2, .int .i64 i, .int .i64 j, .int .i64 g, .int .u64 (st : Int), .bool y]] w fun e w' => e = .returned (.agg #[.int .i64 i, .int .i64 j]) ∧ Below w.heap.size w w' := by
  generalize rs.length = n1
  generalize ws.length = n2
  have g0 : Below w.heap.size w (((w.alloc (.cells #[.int .i64 3, .int .i64 s, .int .i64 q, .slice A1 n1 c1, .slice A2 n2 c2, .int .i64 i, .int .i64 j, .int .i64 g, .int .u64 (st : Int), .bool y] 33)).alloc (.cells #[.int .i64 0, .int .i64 0] 26))) := ((Below.refl _ _).alloc (Nat.le_refl _) _).alloc (by simp) _
  have Z := setAt (setAt (heap_alloc_new (w.alloc (.cells #[.int .i64 3, .int .i64 s, .int .i64 q, .slice A1 n1 c1, .slice A2 n2 c2, .int .i64 i, .int .i64 j, .int .i64 g, .int .u64 (st : Int), .bool y] 33)) (.cells #[.int .i64 0, .int .i64 0] 26)) 0 (.int .i64 i)) 1 (.int .i64 j)
  have r0 := cellAt Z 0
  have r1 := cellAt Z 1
  simp at r0 r1
  go_enter Tryd.func38, Tryd.ntmps38
  go_wp2_with fail
  refine bodyPost_ret (v := .agg #[.int .i64 i, .int .i64 j]) (by simp [results, Tryd.results38, go_sem, r0, r1]) rfl ⟨rfl, ?_⟩
  exact ((Below.refl _ _).alloc (Nat.le_refl _) _).alloc (by simp) _
set_option maxHeartbeats 1600000 in
theorem clabel_0 (k : Int) (k1 : ¬ k = 1) (k2 : ¬ k = 2) (k3 : ¬ k = 3) (s q : Int) (rs : List Rd1) (ws : List Wr1) (A1 : Option Addr) (c1 : Nat) (A2 : Option Addr) (c2 : Nat) (i j g : Int) (st : Nat) (y : Bool) (w : World) :
    Calls Tryd.prog 38 #[.agg #[.int .i64 k, .int .i64 s, .int .i64 q, .slice A1 rs.length c1, .slice A2 ws.length c2, .int .i64 i, .int .i64 j, .int .i64 g, .int .u64 (st : Int), .bool y]] w fun e w' => e = .returned (.agg #[.int .i64 0, .int .i64 0]) ∧ Below w.heap.size w w' := by
  generalize rs.length = n1
  generalize ws.length = n2
  have g0 : Below w.heap.size w (((w.alloc (.cells #[.int .i64 k, .int .i64 s, .int .i64 q, .slice A1 n1 c1, .slice A2 n2 c2, .int .i64 i, .int .i64 j, .int .i64 g, .int .u64 (st : Int), .bool y] 33)).alloc (.cells #[.int .i64 0, .int .i64 0] 26))) := ((Below.refl _ _).alloc (Nat.le_refl _) _).alloc (by simp) _
  have Z := setAt (setAt (heap_alloc_new (w.alloc (.cells #[.int .i64 k, .int .i64 s, .int .i64 q, .slice A1 n1 c1, .slice A2 n2 c2, .int .i64 i, .int .i64 j, .int .i64 g, .int .u64 (st : Int), .bool y] 33)) (.cells #[.int .i64 0, .int .i64 0] 26)) 0 (.int .i64 0)) 1 (.int .i64 0)
  have r0 := cellAt Z 0
  have r1 := cellAt Z 1
  simp at r0 r1
  have d1 : (k == 1) = false := by simp [k1]
  have d2 : (k == 2) = false := by simp [k2]
  have d3 : (k == 3) = false := by simp [k3]
  go_enter Tryd.func38, Tryd.ntmps38
  go_wp2_with fail
  refine bodyPost_ret (v := .agg #[.int .i64 0, .int .i64 0]) (by simp [results, Tryd.results38, go_sem, r0, r1]) rfl ⟨rfl, ?_⟩
  exact ((Below.refl _ _).alloc (Nat.le_refl _) _).alloc (by simp) _
theorem clabel_any (k : Int) (s q : Int) (rs : List Rd1) (ws : List Wr1) (A1 : Option Addr) (c1 : Nat) (A2 : Option Addr) (c2 : Nat) (i j g : Int) (st : Nat) (y : Bool) (w : World) :
    Calls Tryd.prog 38 #[.agg #[.int .i64 k, .int .i64 s, .int .i64 q, .slice A1 rs.length c1, .slice A2 ws.length c2, .int .i64 i, .int .i64 j, .int .i64 g, .int .u64 (st : Int), .bool y]] w fun e w' => e = .returned (.agg #[.int .i64 (T.label k s q i j).1, .int .i64 (T.label k s q i j).2]) ∧ Below w.heap.size w w' := by
  unfold T.label
  by_cases k1 : k = 1
  · subst k1; rw [if_pos rfl]; exact clabel_1 s q rs ws A1 c1 A2 c2 i j g st y w
  · rw [if_neg k1]
    by_cases k2 : k = 2
    · subst k2; rw [if_pos (Or.inl rfl)]; exact clabel_2 s q rs ws A1 c1 A2 c2 i j g st y w
    · by_cases k3 : k = 3
      · subst k3; rw [if_pos (Or.inr rfl)]; exact clabel_3 s q rs ws A1 c1 A2 c2 i j g st y w
      · rw [if_neg (by omega)]; exact clabel_0 k k1 k2 k3 s q rs ws A1 c1 A2 c2 i j g st y w
theorem clab (x : Cm) (w : World) : Calls Tryd.prog 38 #[.agg x.cells.toArray] w fun e w' => e = .returned (.agg [.int .i64 (T.label x.k x.s x.q x.i x.j).1, .int .i64 (T.label x.k x.s x.q x.i x.j).2].toArray) ∧ Below w.heap.size w w' := clabel_any x.k x.s x.q x.rs x.ws x.A1 x.c1 x.A2 x.c2 x.i x.j x.g x.st x.y w
def T.Ms.label (m : Ms) : Int × Int := if m.kd = 8 then (m.t.s, m.t.q) else if m.kd = 9 ∨ m.kd = 10 ∨ m.kd = 11 then (m.ii, m.ij) else if m.kd = 2 ∨ m.kd = 4 ∨ m.kd = 6 then T.label m.c.k m.c.s m.c.q m.c.i m.c.j else (0, 0)
set_option maxHeartbeats 25600000 in
theorem mlabel_any (m : Ms) (w : World) :
    Calls Tryd.prog 16 #[.agg m.cells.toArray] w fun e w' => e = .returned (.agg #[.int .i64 m.label.1, .int .i64 m.label.2]) ∧ Below w.heap.size w w' := by
  have ee : Below w.heap.size w w := Below.refl _ _
  go_enter Tryd.func16, Tryd.ntmps16
  refine wp_seq_k fun K1 hK1 => ?_
  refine wp_region_lit ?_
  with_reducible refine ww (.pointer (some ⟨w.heap.size, 0, none⟩)) (w.alloc (.cells (m.cells).toArray 39)) ?_
  try simp only [nP, nN, nA, n0, nS]
  have sz_g2 := ee.size
  have sz_ := ee.size
  have ee := ee.alloc ee.size (.cells (m.cells).toArray 39)
  have Zb1 := hpN w (.cells (m.cells).toArray 39) rfl
  generalize w.alloc (.cells (m.cells).toArray 39) = z1 at Zb1 ee ⊢
  obtain ⟨g2, hg_g2⟩ : ∃ g_, g_ = w.heap.size := ⟨_, rfl⟩
  have hB_g2 : w.heap.size ≤ g2 := by rw [hg_g2]; exact sz_g2
  rw [← hg_g2] at Zb1 ⊢
  clear hg_g2
  with_reducible refine ww (.pointer (some ⟨z1.heap.size, 0, none⟩)) (z1.alloc (.cells #[.int .i64 0, .int .i64 0] 26)) ?_
  try simp only [nP, nN, nA, n0, nS]
  have sz_g3 := ee.size
  have lZb1 := (Array.getElem?_eq_some_iff.1 Zb1).1
  have sz_ := ee.size
  have Zb1 := hpA Zb1 (.cells #[.int .i64 0, .int .i64 0] 26)
  have ee := ee.alloc ee.size (.cells #[.int .i64 0, .int .i64 0] 26)
  have Zv2 := hpN z1 (.cells #[.int .i64 0, .int .i64 0] 26) rfl
  generalize z1.alloc (.cells #[.int .i64 0, .int .i64 0] 26) = z2 at Zb1 Zv2 ee ⊢
  obtain ⟨g3, hg_g3⟩ : ∃ g_, g_ = z1.heap.size := ⟨_, rfl⟩
  have n_g3_Zb1 : g2 < g3 := by rw [hg_g3]; exact lZb1
  have hB_g3 : w.heap.size ≤ g3 := by rw [hg_g3]; exact sz_g3
  rw [← hg_g3] at Zv2 ⊢
  clear hg_g3 lZb1
  refine wpList_nil ?_
  refine hK1 _ _ ?_
  refine wp_seq_k fun K4 hK4 => ?_
  refine wp_seq_k fun K5 hK5 => ?_
  refine wp_region_lit ?_
  with_reducible refine wv (.pointer (some ⟨g2, 0, none⟩)) ?_
  try simp only [nP, nN, nA, n0, nS]
  with_reducible refine wl (.int .i64 m.kd) ⟨g2, 0, none⟩ (rowCell Zb1 (0) rfl) Tryd.underlying3 ?_
  try simp only [nP, nN, nA, n0, nS]
  refine wpList_nil ?_
  refine hK5 _ _ ?_
  refine wp_block ?_
  refine wp_seq_k fun K6 hK6 => ?_
  refine wp_region_lit ?_
  obtain ⟨b7, hb7⟩ : ∃ d_ : Bool, (decide (m.kd = 8)) = d_ := ⟨_, rfl⟩
  with_reducible refine wb (.bool b7) (.int .i64 m.kd) (.int .i64 8) 3 (run_eqlI hb7) ?_
  try simp only [nP, nN, nA, n0, nS]
  with_reducible refine wv (.bool b7) ?_
  try simp only [nP, nN, nA, n0, nS]
  refine wpList_nil ?_
  refine hK6 _ _ ?_
  cases b7
  · have pb7 : ¬ (m.kd = 8) := of_decide_eq_false hb7
    refine wp_cond_false (by kernel_rfl) ?_
    refine wp_seq_k fun K8 hK8 => ?_
    refine wp_seq_k fun K9 hK9 => ?_
    refine wp_region_lit ?_
    obtain ⟨b10, hb10⟩ : ∃ d_ : Bool, (decide (m.kd = 9)) = d_ := ⟨_, rfl⟩
    with_reducible refine wb (.bool b10) (.int .i64 m.kd) (.int .i64 9) 3 (run_eqlI hb10) ?_
    try simp only [nP, nN, nA, n0, nS]
    with_reducible refine wv (.bool b10) ?_
    try simp only [nP, nN, nA, n0, nS]
    refine wpList_nil ?_
    refine hK9 _ _ ?_
    cases b10
    · have pb10 : ¬ (m.kd = 9) := of_decide_eq_false hb10
      refine wp_cond_false (by kernel_rfl) ?_
      refine wp_seq_k fun K11 hK11 => ?_
      refine wp_region_lit ?_
      obtain ⟨b12, hb12⟩ : ∃ d_ : Bool, (decide (m.kd = 10)) = d_ := ⟨_, rfl⟩
      with_reducible refine wb (.bool b12) (.int .i64 m.kd) (.int .i64 10) 3 (run_eqlI hb12) ?_
      try simp only [nP, nN, nA, n0, nS]
      with_reducible refine wv (.bool b12) ?_
      try simp only [nP, nN, nA, n0, nS]
      refine wpList_nil ?_
      refine hK11 _ _ ?_
      cases b12
      · have pb12 : ¬ (m.kd = 10) := of_decide_eq_false hb12
        refine wp_cond_false (by kernel_rfl) ?_
        refine wp_region_lit ?_
        obtain ⟨b13, hb13⟩ : ∃ d_ : Bool, (decide (m.kd = 11)) = d_ := ⟨_, rfl⟩
        with_reducible refine wb (.bool b13) (.int .i64 m.kd) (.int .i64 11) 3 (run_eqlI hb13) ?_
        try simp only [nP, nN, nA, n0, nS]
        with_reducible refine wv (.bool b13) ?_
        try simp only [nP, nN, nA, n0, nS]
        refine wpList_nil ?_
        refine hK8 _ _ ?_
        cases b13
        · have pb13 : ¬ (m.kd = 11) := of_decide_eq_false hb13
          refine wp_cond_false (by kernel_rfl) ?_
          refine wp_seq_k fun K14 hK14 => ?_
          refine wp_seq_k fun K15 hK15 => ?_
          refine wp_region_lit ?_
          obtain ⟨b16, hb16⟩ : ∃ d_ : Bool, (decide (m.kd = 2)) = d_ := ⟨_, rfl⟩
          with_reducible refine wb (.bool b16) (.int .i64 m.kd) (.int .i64 2) 3 (run_eqlI hb16) ?_
          try simp only [nP, nN, nA, n0, nS]
          with_reducible refine wv (.bool b16) ?_
          try simp only [nP, nN, nA, n0, nS]
          refine wpList_nil ?_
          refine hK15 _ _ ?_
          cases b16
          · have pb16 : ¬ (m.kd = 2) := of_decide_eq_false hb16
            refine wp_cond_false (by kernel_rfl) ?_
            refine wp_seq_k fun K17 hK17 => ?_
            refine wp_region_lit ?_
            obtain ⟨b18, hb18⟩ : ∃ d_ : Bool, (decide (m.kd = 4)) = d_ := ⟨_, rfl⟩
            with_reducible refine wb (.bool b18) (.int .i64 m.kd) (.int .i64 4) 3 (run_eqlI hb18) ?_
            try simp only [nP, nN, nA, n0, nS]
            with_reducible refine wv (.bool b18) ?_
            try simp only [nP, nN, nA, n0, nS]
            refine wpList_nil ?_
            refine hK17 _ _ ?_
            cases b18
            · have pb18 : ¬ (m.kd = 4) := of_decide_eq_false hb18
              refine wp_cond_false (by kernel_rfl) ?_
              refine wp_region_lit ?_
              obtain ⟨b19, hb19⟩ : ∃ d_ : Bool, (decide (m.kd = 6)) = d_ := ⟨_, rfl⟩
              with_reducible refine wb (.bool b19) (.int .i64 m.kd) (.int .i64 6) 3 (run_eqlI hb19) ?_
              try simp only [nP, nN, nA, n0, nS]
              with_reducible refine wv (.bool b19) ?_
              try simp only [nP, nN, nA, n0, nS]
              refine wpList_nil ?_
              refine hK14 _ _ ?_
              cases b19
              · have pb19 : ¬ (m.kd = 6) := of_decide_eq_false hb19
                refine wp_cond_false (by kernel_rfl) ?_
                refine wp_skip ?_
                refine inBlock_normal ?_
                refine hK4 _ _ ?_
                refine wp_seq_k fun K20 hK20 => ?_
                refine wp_region_lit ?_
                with_reducible refine wv (.agg ([.int .i64 0, .int .i64 0]).toArray) ?_
                try simp only [nP, nN, nA, n0, nS]
                refine wpList_storeC 26 (g3) (0) (.agg ([.int .i64 0, .int .i64 0]).toArray) ([.int .i64 0, .int .i64 0]) (rowThere Zv2 (Nat.le_of_ble_eq_true (by kernel_rfl))) (by kernel_rfl) sizeId (allOf (by kernel_rfl)) _ _ (by kernel_rfl) rfl (by kernel_rfl) (by kernel_rfl) ?_
                have N_ : (z2.setCells (g3) (0) ([.int .i64 0, .int .i64 0])).heap[g3]? = some (.cells ([.int .i64 0, .int .i64 0]).toArray 26) := hpC ([.int .i64 0, .int .i64 0]) (0) _ z2 Zv2
                have ee := belowC (g := g3) (by omega) ([.int .i64 0, .int .i64 0]) (0) z2 ee
                have Zb1 := hpCo (g' := g3) (by omega) ([.int .i64 0, .int .i64 0]) (0) z2 Zb1
                clear Zv2
                have Zv2 := N_
                clear N_
                skip
                generalize z2.setCells (g3) (0) ([.int .i64 0, .int .i64 0]) = z3 at Zb1 Zv2 ee ⊢
                try simp only [nP, nN, nA, n0, nS]
                refine wpList_nil ?_
                refine hK20 _ _ ?_
                refine wp_ret ?_
                exact bodyPost_ret (v := .agg (([.int .i64 0, .int .i64 0])).toArray) (res_c rfl (by kernel_rfl) Zv2 Tryd.underlying26 rfl sizeId) rfl ⟨by unfold T.Ms.label; simp [pb7, pb10, pb12, pb13, pb16, pb18, pb19], ee⟩
              have pb19 : m.kd = 6 := of_decide_eq_true hb19
              have eb19 : m.kd = 6 := of_decide_eq_true hb19
              refine wp_cond_true (by kernel_rfl) ?_
              refine wp_seq_k fun K21 hK21 => ?_
              refine wp_region_lit ?_
              with_reducible refine wv (.pointer (some ⟨g2, 7, none⟩)) ?_
              try simp only [nP, nN, nA, n0, nS]
              with_reducible refine wg (g2) (7) (m.c.cells) (rowMid Zb1 (7) (partOf 7 (by kernel_rfl))) Tryd.underlying33 ?_
              try simp only [nP, nN, nA, n0, nS]
              with_reducible refine wc 38 #[.agg (m.c.cells).toArray] (clab m.c z2) ?_
              rintro e z3 ⟨rfl, t⟩
              refine ⟨_, rfl, ?_⟩
              have Zb1 := hpB Zb1 t
              have Zv2 := hpB Zv2 t
              have ee := ee.trans (t.mono ee.size)
              clear t
              try simp only [nP, nN, nA, n0, nS]
              refine wpList_storeC 26 (g3) (0) (.agg ([.int .i64 (T.label m.c.k m.c.s m.c.q m.c.i m.c.j).1, .int .i64 (T.label m.c.k m.c.s m.c.q m.c.i m.c.j).2]).toArray) ([.int .i64 (T.label m.c.k m.c.s m.c.q m.c.i m.c.j).1, .int .i64 (T.label m.c.k m.c.s m.c.q m.c.i m.c.j).2]) (rowThere Zv2 (Nat.le_of_ble_eq_true (by kernel_rfl))) (by kernel_rfl) sizeId (allOf (by kernel_rfl)) _ _ (by kernel_rfl) rfl (by kernel_rfl) (by kernel_rfl) ?_
              have N_ : (z3.setCells (g3) (0) ([.int .i64 (T.label m.c.k m.c.s m.c.q m.c.i m.c.j).1, .int .i64 (T.label m.c.k m.c.s m.c.q m.c.i m.c.j).2])).heap[g3]? = some (.cells ([.int .i64 (T.label m.c.k m.c.s m.c.q m.c.i m.c.j).1, .int .i64 (T.label m.c.k m.c.s m.c.q m.c.i m.c.j).2]).toArray 26) := hpC ([.int .i64 (T.label m.c.k m.c.s m.c.q m.c.i m.c.j).1, .int .i64 (T.label m.c.k m.c.s m.c.q m.c.i m.c.j).2]) (0) _ z3 Zv2
              have ee := belowC (g := g3) (by omega) ([.int .i64 (T.label m.c.k m.c.s m.c.q m.c.i m.c.j).1, .int .i64 (T.label m.c.k m.c.s m.c.q m.c.i m.c.j).2]) (0) z3 ee
              have Zb1 := hpCo (g' := g3) (by omega) ([.int .i64 (T.label m.c.k m.c.s m.c.q m.c.i m.c.j).1, .int .i64 (T.label m.c.k m.c.s m.c.q m.c.i m.c.j).2]) (0) z3 Zb1
              clear Zv2
              have Zv2 := N_
              clear N_
              skip
              generalize z3.setCells (g3) (0) ([.int .i64 (T.label m.c.k m.c.s m.c.q m.c.i m.c.j).1, .int .i64 (T.label m.c.k m.c.s m.c.q m.c.i m.c.j).2]) = z4 at Zb1 Zv2 ee ⊢
              try simp only [nP, nN, nA, n0, nS]
              refine wpList_nil ?_
              refine hK21 _ _ ?_
              refine wp_ret ?_
              refine inBlock_ret ?_
              refine then_ret ?_
              exact bodyPost_ret (v := .agg (([.int .i64 (T.label m.c.k m.c.s m.c.q m.c.i m.c.j).1, .int .i64 (T.label m.c.k m.c.s m.c.q m.c.i m.c.j).2])).toArray) (res_c rfl (by kernel_rfl) Zv2 Tryd.underlying26 rfl sizeId) rfl ⟨by unfold T.Ms.label; simp [pb7, pb10, pb12, pb13, pb16, pb18, pb19], ee⟩
            have pb18 : m.kd = 4 := of_decide_eq_true hb18
            have eb18 : m.kd = 4 := of_decide_eq_true hb18
            refine wp_cond_true (by kernel_rfl) ?_
            refine wp_skip ?_
            refine hK14 _ _ ?_
            refine wp_cond_true (by kernel_rfl) ?_
            refine wp_seq_k fun K22 hK22 => ?_
            refine wp_region_lit ?_
            with_reducible refine wv (.pointer (some ⟨g2, 7, none⟩)) ?_
            try simp only [nP, nN, nA, n0, nS]
            with_reducible refine wg (g2) (7) (m.c.cells) (rowMid Zb1 (7) (partOf 7 (by kernel_rfl))) Tryd.underlying33 ?_
            try simp only [nP, nN, nA, n0, nS]
            with_reducible refine wc 38 #[.agg (m.c.cells).toArray] (clab m.c z2) ?_
            rintro e z3 ⟨rfl, t⟩
            refine ⟨_, rfl, ?_⟩
            have Zb1 := hpB Zb1 t
            have Zv2 := hpB Zv2 t
            have ee := ee.trans (t.mono ee.size)
            clear t
            try simp only [nP, nN, nA, n0, nS]
            refine wpList_storeC 26 (g3) (0) (.agg ([.int .i64 (T.label m.c.k m.c.s m.c.q m.c.i m.c.j).1, .int .i64 (T.label m.c.k m.c.s m.c.q m.c.i m.c.j).2]).toArray) ([.int .i64 (T.label m.c.k m.c.s m.c.q m.c.i m.c.j).1, .int .i64 (T.label m.c.k m.c.s m.c.q m.c.i m.c.j).2]) (rowThere Zv2 (Nat.le_of_ble_eq_true (by kernel_rfl))) (by kernel_rfl) sizeId (allOf (by kernel_rfl)) _ _ (by kernel_rfl) rfl (by kernel_rfl) (by kernel_rfl) ?_
            have N_ : (z3.setCells (g3) (0) ([.int .i64 (T.label m.c.k m.c.s m.c.q m.c.i m.c.j).1, .int .i64 (T.label m.c.k m.c.s m.c.q m.c.i m.c.j).2])).heap[g3]? = some (.cells ([.int .i64 (T.label m.c.k m.c.s m.c.q m.c.i m.c.j).1, .int .i64 (T.label m.c.k m.c.s m.c.q m.c.i m.c.j).2]).toArray 26) := hpC ([.int .i64 (T.label m.c.k m.c.s m.c.q m.c.i m.c.j).1, .int .i64 (T.label m.c.k m.c.s m.c.q m.c.i m.c.j).2]) (0) _ z3 Zv2
            have ee := belowC (g := g3) (by omega) ([.int .i64 (T.label m.c.k m.c.s m.c.q m.c.i m.c.j).1, .int .i64 (T.label m.c.k m.c.s m.c.q m.c.i m.c.j).2]) (0) z3 ee
            have Zb1 := hpCo (g' := g3) (by omega) ([.int .i64 (T.label m.c.k m.c.s m.c.q m.c.i m.c.j).1, .int .i64 (T.label m.c.k m.c.s m.c.q m.c.i m.c.j).2]) (0) z3 Zb1
            clear Zv2
            have Zv2 := N_
            clear N_
            skip
            generalize z3.setCells (g3) (0) ([.int .i64 (T.label m.c.k m.c.s m.c.q m.c.i m.c.j).1, .int .i64 (T.label m.c.k m.c.s m.c.q m.c.i m.c.j).2]) = z4 at Zb1 Zv2 ee ⊢
            try simp only [nP, nN, nA, n0, nS]
            refine wpList_nil ?_
            refine hK22 _ _ ?_
            refine wp_ret ?_
            refine inBlock_ret ?_
            refine then_ret ?_
            exact bodyPost_ret (v := .agg (([.int .i64 (T.label m.c.k m.c.s m.c.q m.c.i m.c.j).1, .int .i64 (T.label m.c.k m.c.s m.c.q m.c.i m.c.j).2])).toArray) (res_c rfl (by kernel_rfl) Zv2 Tryd.underlying26 rfl sizeId) rfl ⟨by unfold T.Ms.label; simp [pb7, pb10, pb12, pb13, pb16, pb18], ee⟩
          have pb16 : m.kd = 2 := of_decide_eq_true hb16
          have eb16 : m.kd = 2 := of_decide_eq_true hb16
          refine wp_cond_true (by kernel_rfl) ?_
          refine wp_skip ?_
          refine hK14 _ _ ?_
          refine wp_cond_true (by kernel_rfl) ?_
          refine wp_seq_k fun K23 hK23 => ?_
          refine wp_region_lit ?_
          with_reducible refine wv (.pointer (some ⟨g2, 7, none⟩)) ?_
          try simp only [nP, nN, nA, n0, nS]
          with_reducible refine wg (g2) (7) (m.c.cells) (rowMid Zb1 (7) (partOf 7 (by kernel_rfl))) Tryd.underlying33 ?_
          try simp only [nP, nN, nA, n0, nS]
          with_reducible refine wc 38 #[.agg (m.c.cells).toArray] (clab m.c z2) ?_
          rintro e z3 ⟨rfl, t⟩
          refine ⟨_, rfl, ?_⟩
          have Zb1 := hpB Zb1 t
          have Zv2 := hpB Zv2 t
          have ee := ee.trans (t.mono ee.size)
          clear t
          try simp only [nP, nN, nA, n0, nS]
          refine wpList_storeC 26 (g3) (0) (.agg ([.int .i64 (T.label m.c.k m.c.s m.c.q m.c.i m.c.j).1, .int .i64 (T.label m.c.k m.c.s m.c.q m.c.i m.c.j).2]).toArray) ([.int .i64 (T.label m.c.k m.c.s m.c.q m.c.i m.c.j).1, .int .i64 (T.label m.c.k m.c.s m.c.q m.c.i m.c.j).2]) (rowThere Zv2 (Nat.le_of_ble_eq_true (by kernel_rfl))) (by kernel_rfl) sizeId (allOf (by kernel_rfl)) _ _ (by kernel_rfl) rfl (by kernel_rfl) (by kernel_rfl) ?_
          have N_ : (z3.setCells (g3) (0) ([.int .i64 (T.label m.c.k m.c.s m.c.q m.c.i m.c.j).1, .int .i64 (T.label m.c.k m.c.s m.c.q m.c.i m.c.j).2])).heap[g3]? = some (.cells ([.int .i64 (T.label m.c.k m.c.s m.c.q m.c.i m.c.j).1, .int .i64 (T.label m.c.k m.c.s m.c.q m.c.i m.c.j).2]).toArray 26) := hpC ([.int .i64 (T.label m.c.k m.c.s m.c.q m.c.i m.c.j).1, .int .i64 (T.label m.c.k m.c.s m.c.q m.c.i m.c.j).2]) (0) _ z3 Zv2
          have ee := belowC (g := g3) (by omega) ([.int .i64 (T.label m.c.k m.c.s m.c.q m.c.i m.c.j).1, .int .i64 (T.label m.c.k m.c.s m.c.q m.c.i m.c.j).2]) (0) z3 ee
          have Zb1 := hpCo (g' := g3) (by omega) ([.int .i64 (T.label m.c.k m.c.s m.c.q m.c.i m.c.j).1, .int .i64 (T.label m.c.k m.c.s m.c.q m.c.i m.c.j).2]) (0) z3 Zb1
          clear Zv2
          have Zv2 := N_
          clear N_
          skip
          generalize z3.setCells (g3) (0) ([.int .i64 (T.label m.c.k m.c.s m.c.q m.c.i m.c.j).1, .int .i64 (T.label m.c.k m.c.s m.c.q m.c.i m.c.j).2]) = z4 at Zb1 Zv2 ee ⊢
          try simp only [nP, nN, nA, n0, nS]
          refine wpList_nil ?_
          refine hK23 _ _ ?_
          refine wp_ret ?_
          refine inBlock_ret ?_
          refine then_ret ?_
          exact bodyPost_ret (v := .agg (([.int .i64 (T.label m.c.k m.c.s m.c.q m.c.i m.c.j).1, .int .i64 (T.label m.c.k m.c.s m.c.q m.c.i m.c.j).2])).toArray) (res_c rfl (by kernel_rfl) Zv2 Tryd.underlying26 rfl sizeId) rfl ⟨by unfold T.Ms.label; simp [pb7, pb10, pb12, pb13, pb16], ee⟩
        have pb13 : m.kd = 11 := of_decide_eq_true hb13
        have eb13 : m.kd = 11 := of_decide_eq_true hb13
        refine wp_cond_true (by kernel_rfl) ?_
        refine wp_seq_k fun K24 hK24 => ?_
        refine wp_region_lit ?_
        with_reducible refine wv (.pointer (some ⟨g2, 21, none⟩)) ?_
        try simp only [nP, nN, nA, n0, nS]
        with_reducible refine wg (g2) (21) ([.int .i64 m.ii, .int .i64 m.ij]) (rowMid Zb1 (21) (partOf 21 (by kernel_rfl))) Tryd.underlying26 ?_
        try simp only [nP, nN, nA, n0, nS]
        refine wpList_storeC 26 (g3) (0) (.agg ([.int .i64 m.ii, .int .i64 m.ij]).toArray) ([.int .i64 m.ii, .int .i64 m.ij]) (rowThere Zv2 (Nat.le_of_ble_eq_true (by kernel_rfl))) (by kernel_rfl) sizeId (allOf (by kernel_rfl)) _ _ (by kernel_rfl) rfl (by kernel_rfl) (by kernel_rfl) ?_
        have N_ : (z2.setCells (g3) (0) ([.int .i64 m.ii, .int .i64 m.ij])).heap[g3]? = some (.cells ([.int .i64 m.ii, .int .i64 m.ij]).toArray 26) := hpC ([.int .i64 m.ii, .int .i64 m.ij]) (0) _ z2 Zv2
        have ee := belowC (g := g3) (by omega) ([.int .i64 m.ii, .int .i64 m.ij]) (0) z2 ee
        have Zb1 := hpCo (g' := g3) (by omega) ([.int .i64 m.ii, .int .i64 m.ij]) (0) z2 Zb1
        clear Zv2
        have Zv2 := N_
        clear N_
        skip
        generalize z2.setCells (g3) (0) ([.int .i64 m.ii, .int .i64 m.ij]) = z3 at Zb1 Zv2 ee ⊢
        try simp only [nP, nN, nA, n0, nS]
        refine wpList_nil ?_
        refine hK24 _ _ ?_
        refine wp_ret ?_
        refine inBlock_ret ?_
        refine then_ret ?_
        exact bodyPost_ret (v := .agg (([.int .i64 m.ii, .int .i64 m.ij])).toArray) (res_c rfl (by kernel_rfl) Zv2 Tryd.underlying26 rfl sizeId) rfl ⟨by unfold T.Ms.label; simp [pb7, pb10, pb12, pb13], ee⟩
      have pb12 : m.kd = 10 := of_decide_eq_true hb12
      have eb12 : m.kd = 10 := of_decide_eq_true hb12
      refine wp_cond_true (by kernel_rfl) ?_
      refine wp_skip ?_
      refine hK8 _ _ ?_
      refine wp_cond_true (by kernel_rfl) ?_
      refine wp_seq_k fun K25 hK25 => ?_
      refine wp_region_lit ?_
      with_reducible refine wv (.pointer (some ⟨g2, 21, none⟩)) ?_
      try simp only [nP, nN, nA, n0, nS]
      with_reducible refine wg (g2) (21) ([.int .i64 m.ii, .int .i64 m.ij]) (rowMid Zb1 (21) (partOf 21 (by kernel_rfl))) Tryd.underlying26 ?_
      try simp only [nP, nN, nA, n0, nS]
      refine wpList_storeC 26 (g3) (0) (.agg ([.int .i64 m.ii, .int .i64 m.ij]).toArray) ([.int .i64 m.ii, .int .i64 m.ij]) (rowThere Zv2 (Nat.le_of_ble_eq_true (by kernel_rfl))) (by kernel_rfl) sizeId (allOf (by kernel_rfl)) _ _ (by kernel_rfl) rfl (by kernel_rfl) (by kernel_rfl) ?_
      have N_ : (z2.setCells (g3) (0) ([.int .i64 m.ii, .int .i64 m.ij])).heap[g3]? = some (.cells ([.int .i64 m.ii, .int .i64 m.ij]).toArray 26) := hpC ([.int .i64 m.ii, .int .i64 m.ij]) (0) _ z2 Zv2
      have ee := belowC (g := g3) (by omega) ([.int .i64 m.ii, .int .i64 m.ij]) (0) z2 ee
      have Zb1 := hpCo (g' := g3) (by omega) ([.int .i64 m.ii, .int .i64 m.ij]) (0) z2 Zb1
      clear Zv2
      have Zv2 := N_
      clear N_
      skip
      generalize z2.setCells (g3) (0) ([.int .i64 m.ii, .int .i64 m.ij]) = z3 at Zb1 Zv2 ee ⊢
      try simp only [nP, nN, nA, n0, nS]
      refine wpList_nil ?_
      refine hK25 _ _ ?_
      refine wp_ret ?_
      refine inBlock_ret ?_
      refine then_ret ?_
      exact bodyPost_ret (v := .agg (([.int .i64 m.ii, .int .i64 m.ij])).toArray) (res_c rfl (by kernel_rfl) Zv2 Tryd.underlying26 rfl sizeId) rfl ⟨by unfold T.Ms.label; simp [pb7, pb10, pb12], ee⟩
    have pb10 : m.kd = 9 := of_decide_eq_true hb10
    have eb10 : m.kd = 9 := of_decide_eq_true hb10
    refine wp_cond_true (by kernel_rfl) ?_
    refine wp_skip ?_
    refine hK8 _ _ ?_
    refine wp_cond_true (by kernel_rfl) ?_
    refine wp_seq_k fun K26 hK26 => ?_
    refine wp_region_lit ?_
    with_reducible refine wv (.pointer (some ⟨g2, 21, none⟩)) ?_
    try simp only [nP, nN, nA, n0, nS]
    with_reducible refine wg (g2) (21) ([.int .i64 m.ii, .int .i64 m.ij]) (rowMid Zb1 (21) (partOf 21 (by kernel_rfl))) Tryd.underlying26 ?_
    try simp only [nP, nN, nA, n0, nS]
    refine wpList_storeC 26 (g3) (0) (.agg ([.int .i64 m.ii, .int .i64 m.ij]).toArray) ([.int .i64 m.ii, .int .i64 m.ij]) (rowThere Zv2 (Nat.le_of_ble_eq_true (by kernel_rfl))) (by kernel_rfl) sizeId (allOf (by kernel_rfl)) _ _ (by kernel_rfl) rfl (by kernel_rfl) (by kernel_rfl) ?_
    have N_ : (z2.setCells (g3) (0) ([.int .i64 m.ii, .int .i64 m.ij])).heap[g3]? = some (.cells ([.int .i64 m.ii, .int .i64 m.ij]).toArray 26) := hpC ([.int .i64 m.ii, .int .i64 m.ij]) (0) _ z2 Zv2
    have ee := belowC (g := g3) (by omega) ([.int .i64 m.ii, .int .i64 m.ij]) (0) z2 ee
    have Zb1 := hpCo (g' := g3) (by omega) ([.int .i64 m.ii, .int .i64 m.ij]) (0) z2 Zb1
    clear Zv2
    have Zv2 := N_
    clear N_
    skip
    generalize z2.setCells (g3) (0) ([.int .i64 m.ii, .int .i64 m.ij]) = z3 at Zb1 Zv2 ee ⊢
    try simp only [nP, nN, nA, n0, nS]
    refine wpList_nil ?_
    refine hK26 _ _ ?_
    refine wp_ret ?_
    refine inBlock_ret ?_
    refine then_ret ?_
    exact bodyPost_ret (v := .agg (([.int .i64 m.ii, .int .i64 m.ij])).toArray) (res_c rfl (by kernel_rfl) Zv2 Tryd.underlying26 rfl sizeId) rfl ⟨by unfold T.Ms.label; simp [pb7, pb10], ee⟩
  have pb7 : m.kd = 8 := of_decide_eq_true hb7
  have eb7 : m.kd = 8 := of_decide_eq_true hb7
  refine wp_cond_true (by kernel_rfl) ?_
  refine wp_seq_k fun K27 hK27 => ?_
  refine wp_region_lit ?_
  with_reducible refine wv (.pointer (some ⟨g2, 17, none⟩)) ?_
  try simp only [nP, nN, nA, n0, nS]
  with_reducible refine wv (.pointer (some ⟨g2, 17, none⟩)) ?_
  try simp only [nP, nN, nA, n0, nS]
  with_reducible refine wg (g2) (17) ([.int .i64 m.t.s, .int .i64 m.t.q]) (rowMid Zb1 (17) (partOf 17 (by kernel_rfl))) Tryd.underlying26 ?_
  try simp only [nP, nN, nA, n0, nS]
  refine wpList_storeC 26 (g3) (0) (.agg ([.int .i64 m.t.s, .int .i64 m.t.q]).toArray) ([.int .i64 m.t.s, .int .i64 m.t.q]) (rowThere Zv2 (Nat.le_of_ble_eq_true (by kernel_rfl))) (by kernel_rfl) sizeId (allOf (by kernel_rfl)) _ _ (by kernel_rfl) rfl (by kernel_rfl) (by kernel_rfl) ?_
  have N_ : (z2.setCells (g3) (0) ([.int .i64 m.t.s, .int .i64 m.t.q])).heap[g3]? = some (.cells ([.int .i64 m.t.s, .int .i64 m.t.q]).toArray 26) := hpC ([.int .i64 m.t.s, .int .i64 m.t.q]) (0) _ z2 Zv2
  have ee := belowC (g := g3) (by omega) ([.int .i64 m.t.s, .int .i64 m.t.q]) (0) z2 ee
  have Zb1 := hpCo (g' := g3) (by omega) ([.int .i64 m.t.s, .int .i64 m.t.q]) (0) z2 Zb1
  clear Zv2
  have Zv2 := N_
  clear N_
  skip
  generalize z2.setCells (g3) (0) ([.int .i64 m.t.s, .int .i64 m.t.q]) = z3 at Zb1 Zv2 ee ⊢
  try simp only [nP, nN, nA, n0, nS]
  refine wpList_nil ?_
  refine hK27 _ _ ?_
  refine wp_ret ?_
  refine inBlock_ret ?_
  refine then_ret ?_
  exact bodyPost_ret (v := .agg (([.int .i64 m.t.s, .int .i64 m.t.q])).toArray) (res_c rfl (by kernel_rfl) Zv2 Tryd.underlying26 rfl sizeId) rfl ⟨by unfold T.Ms.label; simp [pb7], ee⟩
end Go.Proofs.YtjofjpmhokjhnaaDoor
namespace Go.Proofs.YtjofjpmhokjhnaaDoor
open Go.RowKit T
set_option linter.unusedSimpArgs false
set_option linter.unusedVariables false

theorem small70 {m : Ms} (h : m.small) : m.dt.length ≤ 70000 := h.2.2
theorem wr_len9 (m : Ms) (h : m.dt.length ≤ 70000) : m.wr.length ≤ 20000000 := by
  have h1 := wl_len0 m h 7
  have h2 := fields_len m.kd
  rw [wl_end m 7 (by omega)] at h1
  omega
theorem wr_split (m : Ms) : ∃ b x, m.wr = b ++ [x] := by
  rcases List.eq_nil_or_concat m.wr with h | ⟨b, x, h⟩
  · exfalso
    unfold T.Ms.wr at h
    rw [fold_app (fun (l : List UInt8) (c : UInt8) => m.wput l c.toNat) (fun l c => wputA m l c.toNat) (fieldsOf m.kd) (C.put [] (T.nz m.kd) 1), put_one] at h
    simp at h
  · exact ⟨b, x, by rw [h]; simp⟩
theorem T.Like.label {a b : Ms} (h : Like a b) : a.label = b.label := by
  obtain ⟨c1, c2, c3, c4, c5, c6, c7, c8, c9, c10⟩ := (SameC_iff _ _).1 h.c
  unfold T.Ms.label
  rw [h.kd, h.ts, h.tq, h.ii, h.ij, c1, c2, c3, c6, c7]
theorem lab_t (m : Ms) (w : World) (x y : Int) (h : m.label = (x, y)) : Calls Tryd.prog 16 #[.agg m.cells.toArray] w fun e w' => e = .returned (.agg [.int .i64 x, .int .i64 y].toArray) ∧ Below w.heap.size w w' := by
  have q := mlabel_any m w
  rw [h] at q
  exact q
end Go.Proofs.YtjofjpmhokjhnaaDoor

namespace Go.Proofs.YtjofjpmhokjhnaaDoor
set_option maxRecDepth 20001
open Go.RowKit T
set_option linter.unusedSimpArgs false
set_option linter.unusedVariables false
set_option maxHeartbeats 25600000 in
theorem mlabels_any (m : Ms) (w : World) (ok : MsOk w w.heap.size m) (hT : Tabs w) :
    Calls Tryd.prog 10 #[.agg m.cells.toArray] w fun e w' => e = .returned (.bool true) ∧ Below w.heap.size w w' := by
  have ee : Below w.heap.size w w := Below.refl _ _
  go_enter Tryd.func10, Tryd.ntmps10
  refine wp_seq_k fun K1 hK1 => ?_
  refine wp_region_lit ?_
  with_reducible refine ww (.pointer (some ⟨w.heap.size, 0, none⟩)) (w.alloc (.cells (m.cells).toArray 39)) ?_
  try simp only [nP, nN, nA, n0, nS]
  have sz_g2 := ee.size
  have sz_ := ee.size
  have ee := ee.alloc ee.size (.cells (m.cells).toArray 39)
  have Zb1 := hpN w (.cells (m.cells).toArray 39) rfl
  obtain ⟨z1, hz_⟩ : ∃ z_ : World, z_ = w.alloc (.cells (m.cells).toArray 39) := ⟨_, rfl⟩
  rw [← hz_] at Zb1 ee ⊢
  clear hz_
  obtain ⟨g2, hg_g2⟩ : ∃ g_, g_ = w.heap.size := ⟨_, rfl⟩
  have hB_g2 : w.heap.size ≤ g2 := by rw [hg_g2]; exact sz_g2
  rw [← hg_g2] at Zb1 ⊢
  clear hg_g2
  with_reducible refine wv (.bool false) ?_
  try simp only [nP, nN, nA, n0, nS]
  refine wpList_nil ?_
  refine hK1 _ _ ?_
  refine wp_seq_k fun K3 hK3 => ?_
  refine wp_seq_k fun K4 hK4 => ?_
  refine wp_region_lit ?_
  with_reducible refine wc 11 #[] (awake10_any z1 (hT.below ee)) ?_
  rintro e z2 ⟨rfl, t⟩
  refine ⟨_, rfl, ?_⟩
  have Zb1 := hpB Zb1 t
  have ee := ee.trans (t.mono ee.size)
  clear t
  try simp only [nP, nN, nA, n0, nS]
  with_reducible refine wv (.bool false) ?_
  try simp only [nP, nN, nA, n0, nS]
  with_reducible refine wv (.bool false) ?_
  try simp only [nP, nN, nA, n0, nS]
  with_reducible refine wg (g2) (0) (m.cells) (rowAt Zb1) Tryd.underlying39 ?_
  try simp only [nP, nN, nA, n0, nS]
  with_reducible refine wc 12 #[.agg (m.cells).toArray] (few10_any m z2 w.heap.size ee.size (ok.below ee (Nat.le_refl _))) ?_
  rintro e z3 ⟨⟨r0, rfl, hs0⟩, t⟩
  refine ⟨_, rfl, ?_⟩
  have Zb1 := hpB Zb1 t
  have ee := ee.trans (t.mono ee.size)
  clear t
  try simp only [nP, nN, nA, n0, nS]
  cases r0
  · with_reducible refine wv (.bool true) ?_
    try simp only [nP, nN, nA, n0, nS]
    with_reducible refine wv (.bool true) ?_
    try simp only [nP, nN, nA, n0, nS]
    with_reducible refine wv (.bool true) ?_
    try simp only [nP, nN, nA, n0, nS]
    with_reducible refine wk ?_
    try simp only [nP, nN, nA, n0, nS]
    with_reducible refine wk ?_
    try simp only [nP, nN, nA, n0, nS]
    with_reducible refine wk ?_
    try simp only [nP, nN, nA, n0, nS]
    with_reducible refine wv (.bool true) ?_
    try simp only [nP, nN, nA, n0, nS]
    refine wpList_nil ?_
    refine hK4 _ _ ?_
    refine wp_cond_true (by kernel_rfl) ?_
    refine wp_seq_k fun K5 hK5 => ?_
    refine wp_region_lit ?_
    with_reducible refine wc 11 #[] (awake10_any z3 (hT.below ee)) ?_
    rintro e z4 ⟨rfl, t⟩
    refine ⟨_, rfl, ?_⟩
    have Zb1 := hpB Zb1 t
    have ee := ee.trans (t.mono ee.size)
    clear t
    try simp only [nP, nN, nA, n0, nS]
    with_reducible refine wv (.bool true) ?_
    try simp only [nP, nN, nA, n0, nS]
    refine wpList_nil ?_
    refine hK5 _ _ ?_
    refine wp_ret ?_
    refine then_ret ?_
    exact bodyPost_ret (v := .bool true) (by kernel_rfl) rfl ⟨rfl, ee⟩
  with_reducible refine wv (.bool false) ?_
  try simp only [nP, nN, nA, n0, nS]
  with_reducible refine wv (.bool false) ?_
  try simp only [nP, nN, nA, n0, nS]
  with_reducible refine wv (.bool false) ?_
  try simp only [nP, nN, nA, n0, nS]
  with_reducible refine wg (g2) (0) (m.cells) (rowAt Zb1) Tryd.underlying39 ?_
  try simp only [nP, nN, nA, n0, nS]
  with_reducible refine wc 13 #[.agg (m.cells).toArray] (mformed_any m z3 w.heap.size ee.size (ok.below ee (Nat.le_refl _)) (hT.below ee)) ?_
  rintro e z4 ⟨rfl, t⟩
  refine ⟨_, rfl, ?_⟩
  have Zb1 := hpB Zb1 t
  have ee := ee.trans (t.mono ee.size)
  clear t
  generalize hb6 : m.formed = b6
  try simp only [nP, nN, nA, n0, nS]
  cases b6
  · with_reducible refine wv (.bool true) ?_
    try simp only [nP, nN, nA, n0, nS]
    with_reducible refine wv (.bool true) ?_
    try simp only [nP, nN, nA, n0, nS]
    refine wpList_nil ?_
    refine hK4 _ _ ?_
    refine wp_cond_true (by kernel_rfl) ?_
    refine wp_seq_k fun K7 hK7 => ?_
    refine wp_region_lit ?_
    with_reducible refine wc 11 #[] (awake10_any z4 (hT.below ee)) ?_
    rintro e z5 ⟨rfl, t⟩
    refine ⟨_, rfl, ?_⟩
    have Zb1 := hpB Zb1 t
    have ee := ee.trans (t.mono ee.size)
    clear t
    try simp only [nP, nN, nA, n0, nS]
    with_reducible refine wv (.bool true) ?_
    try simp only [nP, nN, nA, n0, nS]
    refine wpList_nil ?_
    refine hK7 _ _ ?_
    refine wp_ret ?_
    refine then_ret ?_
    exact bodyPost_ret (v := .bool true) (by kernel_rfl) rfl ⟨rfl, ee⟩
  with_reducible refine wv (.bool false) ?_
  try simp only [nP, nN, nA, n0, nS]
  with_reducible refine wv (.bool false) ?_
  try simp only [nP, nN, nA, n0, nS]
  refine wpList_nil ?_
  refine hK4 _ _ ?_
  refine wp_cond_false (by kernel_rfl) ?_
  refine wp_skip ?_
  refine hK3 _ _ ?_
  refine wp_seq_k fun K8 hK8 => ?_
  refine wp_region_lit ?_
  with_reducible refine wv (.agg ([.int .i64 0, .int .i64 0]).toArray) ?_
  try simp only [nP, nN, nA, n0, nS]
  with_reducible refine ww (.pointer (some ⟨z4.heap.size, 0, none⟩)) (z4.alloc (.cells #[.int .i64 0, .int .i64 0] 26)) ?_
  try simp only [nP, nN, nA, n0, nS]
  have sz_g9 := ee.size
  have lZb1 := (Array.getElem?_eq_some_iff.1 Zb1).1
  have sz_ := ee.size
  have Zb1 := hpA Zb1 (.cells #[.int .i64 0, .int .i64 0] 26)
  have ee := ee.alloc ee.size (.cells #[.int .i64 0, .int .i64 0] 26)
  have Zv3 := hpN z4 (.cells #[.int .i64 0, .int .i64 0] 26) rfl
  obtain ⟨z5, hz_⟩ : ∃ z_ : World, z_ = z4.alloc (.cells #[.int .i64 0, .int .i64 0] 26) := ⟨_, rfl⟩
  rw [← hz_] at Zb1 Zv3 ee ⊢
  clear hz_
  obtain ⟨g9, hg_g9⟩ : ∃ g_, g_ = z4.heap.size := ⟨_, rfl⟩
  have n_g9_Zb1 : g2 < g9 := by rw [hg_g9]; exact lZb1
  have hB_g9 : w.heap.size ≤ g9 := by rw [hg_g9]; exact sz_g9
  rw [← hg_g9] at Zv3 ⊢
  clear hg_g9 lZb1
  refine wpList_storeC 26 (g9) (0) (.agg ([.int .i64 0, .int .i64 0]).toArray) ([.int .i64 0, .int .i64 0]) (rowThere Zv3 (Nat.le_of_ble_eq_true (by kernel_rfl))) (by kernel_rfl) sizeId (allOf (by kernel_rfl)) _ _ (by kernel_rfl) rfl (by kernel_rfl) (by kernel_rfl) ?_
  have N_ : (z5.setCells (g9) (0) ([.int .i64 0, .int .i64 0])).heap[g9]? = some (.cells ([.int .i64 0, .int .i64 0]).toArray 26) := hpC ([.int .i64 0, .int .i64 0]) (0) _ z5 Zv3
  have ee := belowC (g := g9) (by omega) ([.int .i64 0, .int .i64 0]) (0) z5 ee
  have Zb1 := hpCo (g' := g9) (by omega) ([.int .i64 0, .int .i64 0]) (0) z5 Zb1
  clear Zv3
  have Zv3 := N_
  clear N_
  skip
  obtain ⟨z6, hz_⟩ : ∃ z_ : World, z_ = z5.setCells (g9) (0) ([.int .i64 0, .int .i64 0]) := ⟨_, rfl⟩
  rw [← hz_] at Zb1 Zv3 ee ⊢
  clear hz_
  try simp only [nP, nN, nA, n0, nS]
  refine wpList_nil ?_
  refine hK8 _ _ ?_
  refine wp_seq_k fun K10 hK10 => ?_
  have hjK10 : ∀ (u22 u23 u24 u25 u26 u27 u28 u29 u30 u31 u32 u33 u34 u35 u36 u37 u38 u39 u40 u41 : Value) (x : Int) (y : Int) (zj10 : World), zj10.heap[g2]? = some (.cells (m.cells).toArray 39 (0, 0)) → zj10.heap[g9]? = some (.cells ([.int .i64 x, .int .i64 y]).toArray 26 (0, 0)) → Below w.heap.size w zj10 → m.label = (x, y) → K10 ⟨#[.agg (m.cells).toArray, .pointer (some ⟨g2, 0, none⟩), .bool false, .pointer (some ⟨g9, 0, none⟩), undef, undef, undef, undef, .bool true, .bool false, .bool false, .agg (m.cells).toArray, .bool true, .bool false, .bool false, .bool false, .agg (m.cells).toArray, .bool true, .bool false, .bool false, undef, .agg ([.int .i64 0, .int .i64 0]).toArray, u22, u23, u24, u25, u26, u27, u28, u29, u30, u31, u32, u33, u34, u35, u36, u37, u38, u39, u40, u41, undef, undef, undef, undef, undef, undef, undef, undef, undef, undef, undef, undef, undef, undef, undef, undef, undef, undef, undef, undef, undef, undef, undef, undef, undef, undef, undef, undef], []⟩ zj10 := by
    clear Zb1 Zv3 ee
    intro u22 u23 u24 u25 u26 u27 u28 u29 u30 u31 u32 u33 u34 u35 u36 u37 u38 u39 u40 u41 x y zj10 Zb1 Zv3 ee hlab
    refine hK10 _ _ ?_
    refine wp_seq_k fun K12 hK12 => ?_
    refine wp_region_lit ?_
    with_reducible refine wg (g2) (0) (m.cells) (rowAt Zb1) Tryd.underlying39 ?_
    try simp only [nP, nN, nA, n0, nS]
    have small70_ := small70 (hs0 (by trivial))
    with_reducible refine wc 20 #[.agg (m.cells).toArray] (mwrite_any m zj10 w.heap.size ee.size (ok.below ee (Nat.le_refl _)) (Nat.le_trans small70_ (by decide)) (hT.below ee)) ?_
    rintro e z7 ⟨⟨v1, l1, x1, rfl, s1, hx1, hl1⟩, t⟩
    refine ⟨_, rfl, ?_⟩
    have Zb1 := hpB Zb1 t
    have Zv3 := hpB Zv3 t
    have ee := ee.trans (t.mono ee.size)
    clear t
    have hx0 : x1 = 0 := by rw [hx1, hb6]; rfl
    clear hx1
    subst hx0
    have hl0 : l1 = m.wr := by rw [hl1, hb6]; rfl
    clear hl1
    subst hl0
    have s1_ := s1
    obtain ⟨A1, c1, e1_, hc1, _⟩ := s1_
    subst e1_
    have ew := Below.refl z7.heap.size z7
    obtain ⟨wbs, wx, hwb⟩ := wr_split m
    have hwl : m.wr.length = wbs.length + 1 := by rw [hwb]; simp
    have hw9 := wr_len9 m (small70 (hs0 (by trivial)))
    try simp only [nP, nN, nA, n0, nS]
    with_reducible refine wv (.tuple #[.slice A1 m.wr.length c1, .int .i64 0]) ?_
    try simp only [nP, nN, nA, n0, nS]
    with_reducible refine wv (.slice A1 m.wr.length c1) ?_
    try simp only [nP, nN, nA, n0, nS]
    with_reducible refine wv (.int .i64 0) ?_
    try simp only [nP, nN, nA, n0, nS]
    with_reducible refine wv (.slice A1 m.wr.length c1) ?_
    try simp only [nP, nN, nA, n0, nS]
    with_reducible refine wv (.int .i64 0) ?_
    try simp only [nP, nN, nA, n0, nS]
    refine wpList_nil ?_
    refine hK12 _ _ ?_
    refine wp_seq_k fun K13 hK13 => ?_
    refine wp_region_lit ?_
    with_reducible refine wv (.slice A1 m.wr.length c1) ?_
    try simp only [nP, nN, nA, n0, nS]
    with_reducible refine wc 37 #[.slice A1 m.wr.length c1] (mread_any (b := .slice A1 m.wr.length c1) (l := m.wr) z7 ((s1.belowM ew (Nat.le_refl _)).more ew.size) (by omega) (hT.below ee)) ?_
    rintro e z8 ⟨⟨n1, x1_, rfl, okn1, hx1_, ln1⟩, t⟩
    refine ⟨_, rfl, ?_⟩
    have Zb1 := hpB Zb1 t
    have Zv3 := hpB Zv3 t
    have ee := ee.trans (t.mono ee.size)
    have ew := ew.trans (t.mono ew.size)
    clear t
    have hf_ := fitsOf ok
    have hr1 : rok m.wr = true := rok_wr m hb6 hf_
    rw [hr1] at hx1_ ln1
    simp only [cond_true] at hx1_ ln1
    subst hx1_
    have lm : Like n1 m := ln1.trans (by have q_ := rdm_wr m hb6 hf_ []; rw [List.append_nil] at q_; exact q_)
    have en1 := Below.refl z8.heap.size z8
    try simp only [nP, nN, nA, n0, nS]
    with_reducible refine wv (.tuple #[.agg (n1.cells).toArray, .int .i64 0]) ?_
    try simp only [nP, nN, nA, n0, nS]
    with_reducible refine wv (.agg (n1.cells).toArray) ?_
    try simp only [nP, nN, nA, n0, nS]
    with_reducible refine wv (.int .i64 0) ?_
    try simp only [nP, nN, nA, n0, nS]
    with_reducible refine ww (.pointer (some ⟨z8.heap.size, 0, none⟩)) (z8.alloc (.cells #[.int .i64 0, .int .u32 0, .int .i64 0, .int .i64 0, .bool false, .int .u32 0, .int .i64 0, .int .i64 0, .int .i64 0, .int .i64 0, .slice none 0 0, .slice none 0 0, .int .i64 0, .int .i64 0, .int .i64 0, .int .u64 0, .bool false, .int .i64 0, .int .i64 0, .slice none 0 0, .slice none 0 0, .int .i64 0, .int .i64 0, .int .i64 0, .int .u64 0, .bool false, .int .i64 0, .string ByteArray.empty, .int .u64 0, .int .i64 0, .int .u64 0, .string ByteArray.empty, .int .i64 0, .slice none 0 0] 39)) ?_
    try simp only [nP, nN, nA, n0, nS]
    have sz_g14 := ee.size
    have sz_g14_ew := ew.size
    have sz_g14_en1 := en1.size
    have lZb1 := (Array.getElem?_eq_some_iff.1 Zb1).1
    have lZv3 := (Array.getElem?_eq_some_iff.1 Zv3).1
    have sz_ := ee.size
    have Zb1 := hpA Zb1 (.cells #[.int .i64 0, .int .u32 0, .int .i64 0, .int .i64 0, .bool false, .int .u32 0, .int .i64 0, .int .i64 0, .int .i64 0, .int .i64 0, .slice none 0 0, .slice none 0 0, .int .i64 0, .int .i64 0, .int .i64 0, .int .u64 0, .bool false, .int .i64 0, .int .i64 0, .slice none 0 0, .slice none 0 0, .int .i64 0, .int .i64 0, .int .i64 0, .int .u64 0, .bool false, .int .i64 0, .string ByteArray.empty, .int .u64 0, .int .i64 0, .int .u64 0, .string ByteArray.empty, .int .i64 0, .slice none 0 0] 39)
    have Zv3 := hpA Zv3 (.cells #[.int .i64 0, .int .u32 0, .int .i64 0, .int .i64 0, .bool false, .int .u32 0, .int .i64 0, .int .i64 0, .int .i64 0, .int .i64 0, .slice none 0 0, .slice none 0 0, .int .i64 0, .int .i64 0, .int .i64 0, .int .u64 0, .bool false, .int .i64 0, .int .i64 0, .slice none 0 0, .slice none 0 0, .int .i64 0, .int .i64 0, .int .i64 0, .int .u64 0, .bool false, .int .i64 0, .string ByteArray.empty, .int .u64 0, .int .i64 0, .int .u64 0, .string ByteArray.empty, .int .i64 0, .slice none 0 0] 39)
    have ee := ee.alloc ee.size (.cells #[.int .i64 0, .int .u32 0, .int .i64 0, .int .i64 0, .bool false, .int .u32 0, .int .i64 0, .int .i64 0, .int .i64 0, .int .i64 0, .slice none 0 0, .slice none 0 0, .int .i64 0, .int .i64 0, .int .i64 0, .int .u64 0, .bool false, .int .i64 0, .int .i64 0, .slice none 0 0, .slice none 0 0, .int .i64 0, .int .i64 0, .int .i64 0, .int .u64 0, .bool false, .int .i64 0, .string ByteArray.empty, .int .u64 0, .int .i64 0, .int .u64 0, .string ByteArray.empty, .int .i64 0, .slice none 0 0] 39)
    have ew := ew.alloc ew.size (.cells #[.int .i64 0, .int .u32 0, .int .i64 0, .int .i64 0, .bool false, .int .u32 0, .int .i64 0, .int .i64 0, .int .i64 0, .int .i64 0, .slice none 0 0, .slice none 0 0, .int .i64 0, .int .i64 0, .int .i64 0, .int .u64 0, .bool false, .int .i64 0, .int .i64 0, .slice none 0 0, .slice none 0 0, .int .i64 0, .int .i64 0, .int .i64 0, .int .u64 0, .bool false, .int .i64 0, .string ByteArray.empty, .int .u64 0, .int .i64 0, .int .u64 0, .string ByteArray.empty, .int .i64 0, .slice none 0 0] 39)
    have en1 := en1.alloc en1.size (.cells #[.int .i64 0, .int .u32 0, .int .i64 0, .int .i64 0, .bool false, .int .u32 0, .int .i64 0, .int .i64 0, .int .i64 0, .int .i64 0, .slice none 0 0, .slice none 0 0, .int .i64 0, .int .i64 0, .int .i64 0, .int .u64 0, .bool false, .int .i64 0, .int .i64 0, .slice none 0 0, .slice none 0 0, .int .i64 0, .int .i64 0, .int .i64 0, .int .u64 0, .bool false, .int .i64 0, .string ByteArray.empty, .int .u64 0, .int .i64 0, .int .u64 0, .string ByteArray.empty, .int .i64 0, .slice none 0 0] 39)
    have Zv6 := hpN z8 (.cells #[.int .i64 0, .int .u32 0, .int .i64 0, .int .i64 0, .bool false, .int .u32 0, .int .i64 0, .int .i64 0, .int .i64 0, .int .i64 0, .slice none 0 0, .slice none 0 0, .int .i64 0, .int .i64 0, .int .i64 0, .int .u64 0, .bool false, .int .i64 0, .int .i64 0, .slice none 0 0, .slice none 0 0, .int .i64 0, .int .i64 0, .int .i64 0, .int .u64 0, .bool false, .int .i64 0, .string ByteArray.empty, .int .u64 0, .int .i64 0, .int .u64 0, .string ByteArray.empty, .int .i64 0, .slice none 0 0] 39) rfl
    obtain ⟨z9, hz_⟩ : ∃ z_ : World, z_ = z8.alloc (.cells #[.int .i64 0, .int .u32 0, .int .i64 0, .int .i64 0, .bool false, .int .u32 0, .int .i64 0, .int .i64 0, .int .i64 0, .int .i64 0, .slice none 0 0, .slice none 0 0, .int .i64 0, .int .i64 0, .int .i64 0, .int .u64 0, .bool false, .int .i64 0, .int .i64 0, .slice none 0 0, .slice none 0 0, .int .i64 0, .int .i64 0, .int .i64 0, .int .u64 0, .bool false, .int .i64 0, .string ByteArray.empty, .int .u64 0, .int .i64 0, .int .u64 0, .string ByteArray.empty, .int .i64 0, .slice none 0 0] 39) := ⟨_, rfl⟩
    rw [← hz_] at Zb1 Zv3 Zv6 ee ew en1 ⊢
    clear hz_
    obtain ⟨g14, hg_g14⟩ : ∃ g_, g_ = z8.heap.size := ⟨_, rfl⟩
    have n_g14_Zb1 : g2 < g14 := by rw [hg_g14]; exact lZb1
    have n_g14_Zv3 : g9 < g14 := by rw [hg_g14]; exact lZv3
    have hB_g14 : w.heap.size ≤ g14 := by rw [hg_g14]; exact sz_g14
    have hB_g14_ew : z7.heap.size ≤ g14 := by rw [hg_g14]; exact sz_g14_ew
    have hB_g14_en1 : z8.heap.size ≤ g14 := by rw [hg_g14]; exact sz_g14_en1
    rw [← hg_g14] at Zv6 ⊢
    clear hg_g14 lZb1 lZv3
    refine wpList_store_row rfl 39 _ _ rfl (g14) (n1.cells).toArray rfl rfl 39 _ Zv6 sizeMs (by rfl) (Ms.one _) ?_
    have N_ := setRow_heap z9 (g14) _ (n1.cells).toArray _ _ Zv6
    have ee := belowSet (cs := (n1.cells).toArray) ee Zv6 (by omega)
    have ew := belowSet (cs := (n1.cells).toArray) ew Zv6 (by omega)
    have en1 := belowSet (cs := (n1.cells).toArray) en1 Zv6 (by omega)
    have Zb1 := hpR Zb1 (g' := g14) (by omega) (n1.cells).toArray
    have Zv3 := hpR Zv3 (g' := g14) (by omega) (n1.cells).toArray
    clear Zv6
    have Zv6 := N_
    clear N_
    obtain ⟨z10, hz_⟩ : ∃ z_ : World, z_ = z9.setRow (g14) (n1.cells).toArray := ⟨_, rfl⟩
    rw [← hz_] at Zb1 Zv3 Zv6 ee ew en1 ⊢
    clear hz_
    try simp only [nP, nN, nA, n0, nS]
    with_reducible refine wv (.int .i64 0) ?_
    try simp only [nP, nN, nA, n0, nS]
    refine wpList_nil ?_
    refine hK13 _ _ ?_
    refine wp_seq_k fun K15 hK15 => ?_
    have Zb1 : z10.drew.heap[g2]? = some (.cells (m.cells).toArray 39) := Zb1
    have Zv3 : z10.drew.heap[g9]? = some (.cells ([.int .i64 x, .int .i64 y]).toArray 26) := Zv3
    have Zv6 : z10.drew.heap[g14]? = some (.cells (n1.cells).toArray 39) := Zv6
    have ee := belowDrewS ee
    have ew := belowDrewS ew
    have en1 := belowDrewS en1
    -- region 17
    with_reducible refine any_begin (fun z' => z'.heap[g2]? = some (.cells (m.cells).toArray 39 (0, 0)) ∧ z'.heap[g9]? = some (.cells ([.int .i64 x, .int .i64 y]).toArray 26 (0, 0)) ∧ z'.heap[g14]? = some (.cells (n1.cells).toArray 39 (0, 0))) 19 #[false, false, false, false, false, false, false, false, false, false, false, false, false, false, false, false, false, false, false] ⟨Zb1, Zv3, Zv6⟩ ?_ ?_
    · intro c_ a_ d_ v_ w_ h_; cases d_ <;> exact h_
    obtain ⟨z11, hz_⟩ : ∃ z_ : World, z_ = z10.drew := ⟨_, rfl⟩
    rw [← hz_] at Zb1 Zv3 Zv6 ee ew en1 ⊢
    clear hz_
    with_reducible refine ha 0 (some 52) (.int .i64 0) #[true, false, false, false, false, false, false, false, false, false, false, false, false, false, false, false, false, false, false] (fun w_ _ => by kernel_rfl) ⟨Zb1, Zv3, Zv6⟩ ?_
    try simp only [nP, nN, nA, n0, nS]
    with_reducible refine ha 1 (some 53) (.bool true) #[true, true, false, false, false, false, false, false, false, false, false, false, false, false, false, false, false, false, false] (fun w_ _ => runBin (.bool true) (.int .i64 0) (.int .i64 0) 36 (run_eqlI (show (decide (0 = 0)) = true from by decide))) ⟨Zb1, Zv3, Zv6⟩ ?_
    try simp only [nP, nN, nA, n0, nS]
    with_reducible refine ha 2 (some 54) (.bool true) #[true, true, true, false, false, false, false, false, false, false, false, false, false, false, false, false, false, false, false] (fun w_ _ => by kernel_rfl) ⟨Zb1, Zv3, Zv6⟩ ?_
    try simp only [nP, nN, nA, n0, nS]
    with_reducible refine ha 3 (some 55) (.int .i64 0) #[true, true, true, true, false, false, false, false, false, false, false, false, false, false, false, false, false, false, false] (fun w_ _ => by kernel_rfl) ⟨Zb1, Zv3, Zv6⟩ ?_
    try simp only [nP, nN, nA, n0, nS]
    with_reducible refine ha 4 (some 56) (.bool true) #[true, true, true, true, true, false, false, false, false, false, false, false, false, false, false, false, false, false, false] (fun w_ _ => runBin (.bool true) (.int .i64 0) (.int .i64 0) 36 (run_eqlI (show (decide (0 = 0)) = true from by decide))) ⟨Zb1, Zv3, Zv6⟩ ?_
    try simp only [nP, nN, nA, n0, nS]
    with_reducible refine ha 5 (some 57) (.bool true) #[true, true, true, true, true, true, false, false, false, false, false, false, false, false, false, false, false, false, false] (fun w_ _ => by kernel_rfl) ⟨Zb1, Zv3, Zv6⟩ ?_
    try simp only [nP, nN, nA, n0, nS]
    with_reducible refine ha 6 (some 58) (.bool true) #[true, true, true, true, true, true, true, false, false, false, false, false, false, false, false, false, false, false, false] (fun w_ _ => by kernel_rfl) ⟨Zb1, Zv3, Zv6⟩ ?_
    try simp only [nP, nN, nA, n0, nS]
    with_reducible refine hg_ 7 (some 59) (g2) (0) (m.cells) #[true, true, true, true, true, true, true, true, false, false, false, false, false, false, false, false, false, false, false] (fun _ h_ => (rowAt h_.1)) Tryd.underlying39 ⟨Zb1, Zv3, Zv6⟩ ?_
    try simp only [nP, nN, nA, n0, nS]
    with_reducible refine hg_ 9 (some 61) (g9) (0) ([.int .i64 x, .int .i64 y]) #[true, true, true, true, true, true, true, true, false, true, false, false, false, false, false, false, false, false, false] (fun _ h_ => (rowAt h_.2.1)) Tryd.underlying26 ⟨Zb1, Zv3, Zv6⟩ ?_
    try simp only [nP, nN, nA, n0, nS]
    with_reducible refine any1 8 ?_
    with_reducible refine st_f 8 (some 60) 16 #[.agg (m.cells).toArray] #[true, true, true, true, true, true, true, true, true, true, false, false, false, false, false, false, false, false, false] (lab_t m z11 x y hlab) ?_
    rintro e z12 ⟨rfl, t⟩
    refine ⟨_, rfl, ?_⟩
    have Zb1 := hpB Zb1 t
    have Zv3 := hpB Zv3 t
    have Zv6 := hpB Zv6 t
    have ee := ee.trans (t.mono ee.size)
    have ew := ew.trans (t.mono ew.size)
    have en1 := en1.trans (t.mono en1.size)
    clear t
    refine ⟨⟨Zb1, Zv3, Zv6⟩, ?_⟩
    try simp only [nP, nN, nA, n0, nS]
    with_reducible refine ha 10 (some 62) (.bool true) #[true, true, true, true, true, true, true, true, true, true, true, false, false, false, false, false, false, false, false] (fun w_ _ => runBin (.bool true) (.agg ([.int .i64 x, .int .i64 y]).toArray) (.agg ([.int .i64 x, .int .i64 y]).toArray) 26 (run_E (by have := run_eqId x y x y w_; rw [((by simp) : (decide (x = x ∧ y = y)) = true)] at this; exact this))) ⟨Zb1, Zv3, Zv6⟩ ?_
    try simp only [nP, nN, nA, n0, nS]
    with_reducible refine ha 11 (some 63) (.bool true) #[true, true, true, true, true, true, true, true, true, true, true, true, false, false, false, false, false, false, false] (fun w_ _ => by kernel_rfl) ⟨Zb1, Zv3, Zv6⟩ ?_
    try simp only [nP, nN, nA, n0, nS]
    with_reducible refine ha 12 (some 64) (.bool true) #[true, true, true, true, true, true, true, true, true, true, true, true, true, false, false, false, false, false, false] (fun w_ _ => by kernel_rfl) ⟨Zb1, Zv3, Zv6⟩ ?_
    try simp only [nP, nN, nA, n0, nS]
    with_reducible refine hg_ 13 (some 65) (g14) (0) (n1.cells) #[true, true, true, true, true, true, true, true, true, true, true, true, true, true, false, false, false, false, false] (fun _ h_ => (rowAt h_.2.2)) Tryd.underlying39 ⟨Zb1, Zv3, Zv6⟩ ?_
    try simp only [nP, nN, nA, n0, nS]
    with_reducible refine hg_ 15 (some 67) (g9) (0) ([.int .i64 x, .int .i64 y]) #[true, true, true, true, true, true, true, true, true, true, true, true, true, true, false, true, false, false, false] (fun _ h_ => (rowAt h_.2.1)) Tryd.underlying26 ⟨Zb1, Zv3, Zv6⟩ ?_
    try simp only [nP, nN, nA, n0, nS]
    with_reducible refine any1 14 ?_
    with_reducible refine st_f 14 (some 66) 16 #[.agg (n1.cells).toArray] #[true, true, true, true, true, true, true, true, true, true, true, true, true, true, true, true, false, false, false] (lab_t n1 z12 x y (lm.label.trans hlab)) ?_
    rintro e z13 ⟨rfl, t⟩
    refine ⟨_, rfl, ?_⟩
    have Zb1 := hpB Zb1 t
    have Zv3 := hpB Zv3 t
    have Zv6 := hpB Zv6 t
    have ee := ee.trans (t.mono ee.size)
    have ew := ew.trans (t.mono ew.size)
    have en1 := en1.trans (t.mono en1.size)
    clear t
    refine ⟨⟨Zb1, Zv3, Zv6⟩, ?_⟩
    try simp only [nP, nN, nA, n0, nS]
    with_reducible refine ha 16 (some 68) (.bool true) #[true, true, true, true, true, true, true, true, true, true, true, true, true, true, true, true, true, false, false] (fun w_ _ => runBin (.bool true) (.agg ([.int .i64 x, .int .i64 y]).toArray) (.agg ([.int .i64 x, .int .i64 y]).toArray) 26 (run_E (by have := run_eqId x y x y w_; rw [((by simp) : (decide (x = x ∧ y = y)) = true)] at this; exact this))) ⟨Zb1, Zv3, Zv6⟩ ?_
    try simp only [nP, nN, nA, n0, nS]
    with_reducible refine ha 17 (some 69) (.bool true) #[true, true, true, true, true, true, true, true, true, true, true, true, true, true, true, true, true, true, false] (fun w_ _ => by kernel_rfl) ⟨Zb1, Zv3, Zv6⟩ ?_
    try simp only [nP, nN, nA, n0, nS]
    with_reducible refine ha 18 (some 2) (.bool true) #[true, true, true, true, true, true, true, true, true, true, true, true, true, true, true, true, true, true, true] (fun w_ _ => by kernel_rfl) ⟨Zb1, Zv3, Zv6⟩ ?_
    try simp only [nP, nN, nA, n0, nS]
    with_reducible refine any_end ?_
    refine hK15 _ _ ?_
    refine wp_ret ?_
    exact bodyPost_ret (v := .bool true) (by kernel_rfl) rfl ⟨rfl, ee⟩
  refine wp_seq_k fun K16 hK16 => ?_
  refine wp_region_lit ?_
  with_reducible refine wv (.pointer (some ⟨g2, 0, none⟩)) ?_
  try simp only [nP, nN, nA, n0, nS]
  with_reducible refine wl (.int .i64 m.kd) ⟨g2, 0, none⟩ (rowCell Zb1 (0) rfl) Tryd.underlying3 ?_
  try simp only [nP, nN, nA, n0, nS]
  refine wpList_nil ?_
  refine hK16 _ _ ?_
  refine wp_block ?_
  refine wp_seq_k fun K17 hK17 => ?_
  refine wp_region_lit ?_
  obtain ⟨b18, hb18⟩ : ∃ d_ : Bool, (decide (m.kd = 8)) = d_ := ⟨_, rfl⟩
  with_reducible refine wb (.bool b18) (.int .i64 m.kd) (.int .i64 8) 3 (run_eqlI hb18) ?_
  try simp only [nP, nN, nA, n0, nS]
  with_reducible refine wv (.bool b18) ?_
  try simp only [nP, nN, nA, n0, nS]
  refine wpList_nil ?_
  refine hK17 _ _ ?_
  cases b18
  · have pb18 : ¬ (m.kd = 8) := of_decide_eq_false hb18
    refine wp_cond_false (by kernel_rfl) ?_
    refine wp_seq_k fun K19 hK19 => ?_
    refine wp_seq_k fun K20 hK20 => ?_
    refine wp_region_lit ?_
    obtain ⟨b21, hb21⟩ : ∃ d_ : Bool, (decide (m.kd = 9)) = d_ := ⟨_, rfl⟩
    with_reducible refine wb (.bool b21) (.int .i64 m.kd) (.int .i64 9) 3 (run_eqlI hb21) ?_
    try simp only [nP, nN, nA, n0, nS]
    with_reducible refine wv (.bool b21) ?_
    try simp only [nP, nN, nA, n0, nS]
    refine wpList_nil ?_
    refine hK20 _ _ ?_
    cases b21
    · have pb21 : ¬ (m.kd = 9) := of_decide_eq_false hb21
      refine wp_cond_false (by kernel_rfl) ?_
      refine wp_seq_k fun K22 hK22 => ?_
      refine wp_region_lit ?_
      obtain ⟨b23, hb23⟩ : ∃ d_ : Bool, (decide (m.kd = 10)) = d_ := ⟨_, rfl⟩
      with_reducible refine wb (.bool b23) (.int .i64 m.kd) (.int .i64 10) 3 (run_eqlI hb23) ?_
      try simp only [nP, nN, nA, n0, nS]
      with_reducible refine wv (.bool b23) ?_
      try simp only [nP, nN, nA, n0, nS]
      refine wpList_nil ?_
      refine hK22 _ _ ?_
      cases b23
      · have pb23 : ¬ (m.kd = 10) := of_decide_eq_false hb23
        refine wp_cond_false (by kernel_rfl) ?_
        refine wp_region_lit ?_
        obtain ⟨b24, hb24⟩ : ∃ d_ : Bool, (decide (m.kd = 11)) = d_ := ⟨_, rfl⟩
        with_reducible refine wb (.bool b24) (.int .i64 m.kd) (.int .i64 11) 3 (run_eqlI hb24) ?_
        try simp only [nP, nN, nA, n0, nS]
        with_reducible refine wv (.bool b24) ?_
        try simp only [nP, nN, nA, n0, nS]
        refine wpList_nil ?_
        refine hK19 _ _ ?_
        cases b24
        · have pb24 : ¬ (m.kd = 11) := of_decide_eq_false hb24
          refine wp_cond_false (by kernel_rfl) ?_
          refine wp_seq_k fun K25 hK25 => ?_
          refine wp_seq_k fun K26 hK26 => ?_
          refine wp_region_lit ?_
          obtain ⟨b27, hb27⟩ : ∃ d_ : Bool, (decide (m.kd = 4)) = d_ := ⟨_, rfl⟩
          with_reducible refine wb (.bool b27) (.int .i64 m.kd) (.int .i64 4) 3 (run_eqlI hb27) ?_
          try simp only [nP, nN, nA, n0, nS]
          with_reducible refine wv (.bool b27) ?_
          try simp only [nP, nN, nA, n0, nS]
          refine wpList_nil ?_
          refine hK26 _ _ ?_
          cases b27
          · have pb27 : ¬ (m.kd = 4) := of_decide_eq_false hb27
            refine wp_cond_false (by kernel_rfl) ?_
            refine wp_seq_k fun K28 hK28 => ?_
            refine wp_region_lit ?_
            obtain ⟨b29, hb29⟩ : ∃ d_ : Bool, (decide (m.kd = 6)) = d_ := ⟨_, rfl⟩
            with_reducible refine wb (.bool b29) (.int .i64 m.kd) (.int .i64 6) 3 (run_eqlI hb29) ?_
            try simp only [nP, nN, nA, n0, nS]
            with_reducible refine wv (.bool b29) ?_
            try simp only [nP, nN, nA, n0, nS]
            refine wpList_nil ?_
            refine hK28 _ _ ?_
            cases b29
            · have pb29 : ¬ (m.kd = 6) := of_decide_eq_false hb29
              refine wp_cond_false (by kernel_rfl) ?_
              refine wp_region_lit ?_
              obtain ⟨b30, hb30⟩ : ∃ d_ : Bool, (decide (m.kd = 2)) = d_ := ⟨_, rfl⟩
              with_reducible refine wb (.bool b30) (.int .i64 m.kd) (.int .i64 2) 3 (run_eqlI hb30) ?_
              try simp only [nP, nN, nA, n0, nS]
              with_reducible refine wv (.bool b30) ?_
              try simp only [nP, nN, nA, n0, nS]
              refine wpList_nil ?_
              refine hK25 _ _ ?_
              cases b30
              · have pb30 : ¬ (m.kd = 2) := of_decide_eq_false hb30
                refine wp_cond_false (by kernel_rfl) ?_
                refine wp_skip ?_
                refine inBlock_normal ?_
                exact hjK10 _ _ _ _ _ _ _ _ _ _ _ _ _ _ _ _ _ _ _ _ 0 0 _ Zb1 Zv3 ee (by unfold T.Ms.label; simp [pb18, pb21, pb23, pb24, pb27, pb29, pb30])
              have pb30 : m.kd = 2 := of_decide_eq_true hb30
              have eb30 : m.kd = 2 := of_decide_eq_true hb30
              refine wp_cond_true (by kernel_rfl) ?_
              refine wp_region_lit ?_
              with_reducible refine wv (.pointer (some ⟨g2, 7, none⟩)) ?_
              try simp only [nP, nN, nA, n0, nS]
              with_reducible refine wg (g2) (7) (m.c.cells) (rowMid Zb1 (7) (partOf 7 (by kernel_rfl))) Tryd.underlying33 ?_
              try simp only [nP, nN, nA, n0, nS]
              with_reducible refine wc 38 #[.agg (m.c.cells).toArray] (clab m.c z6) ?_
              rintro e z7 ⟨rfl, t⟩
              refine ⟨_, rfl, ?_⟩
              have Zb1 := hpB Zb1 t
              have Zv3 := hpB Zv3 t
              have ee := ee.trans (t.mono ee.size)
              clear t
              try simp only [nP, nN, nA, n0, nS]
              refine wpList_storeC 26 (g9) (0) (.agg ([.int .i64 (T.label m.c.k m.c.s m.c.q m.c.i m.c.j).1, .int .i64 (T.label m.c.k m.c.s m.c.q m.c.i m.c.j).2]).toArray) ([.int .i64 (T.label m.c.k m.c.s m.c.q m.c.i m.c.j).1, .int .i64 (T.label m.c.k m.c.s m.c.q m.c.i m.c.j).2]) (rowThere Zv3 (Nat.le_of_ble_eq_true (by kernel_rfl))) (by kernel_rfl) sizeId (allOf (by kernel_rfl)) _ _ (by kernel_rfl) rfl (by kernel_rfl) (by kernel_rfl) ?_
              have N_ : (z7.setCells (g9) (0) ([.int .i64 (T.label m.c.k m.c.s m.c.q m.c.i m.c.j).1, .int .i64 (T.label m.c.k m.c.s m.c.q m.c.i m.c.j).2])).heap[g9]? = some (.cells ([.int .i64 (T.label m.c.k m.c.s m.c.q m.c.i m.c.j).1, .int .i64 (T.label m.c.k m.c.s m.c.q m.c.i m.c.j).2]).toArray 26) := hpC ([.int .i64 (T.label m.c.k m.c.s m.c.q m.c.i m.c.j).1, .int .i64 (T.label m.c.k m.c.s m.c.q m.c.i m.c.j).2]) (0) _ z7 Zv3
              have ee := belowC (g := g9) (by omega) ([.int .i64 (T.label m.c.k m.c.s m.c.q m.c.i m.c.j).1, .int .i64 (T.label m.c.k m.c.s m.c.q m.c.i m.c.j).2]) (0) z7 ee
              have Zb1 := hpCo (g' := g9) (by omega) ([.int .i64 (T.label m.c.k m.c.s m.c.q m.c.i m.c.j).1, .int .i64 (T.label m.c.k m.c.s m.c.q m.c.i m.c.j).2]) (0) z7 Zb1
              clear Zv3
              have Zv3 := N_
              clear N_
              skip
              obtain ⟨z8, hz_⟩ : ∃ z_ : World, z_ = z7.setCells (g9) (0) ([.int .i64 (T.label m.c.k m.c.s m.c.q m.c.i m.c.j).1, .int .i64 (T.label m.c.k m.c.s m.c.q m.c.i m.c.j).2]) := ⟨_, rfl⟩
              rw [← hz_] at Zb1 Zv3 ee ⊢
              clear hz_
              try simp only [nP, nN, nA, n0, nS]
              refine wpList_nil ?_
              refine inBlock_normal ?_
              exact hjK10 _ _ _ _ _ _ _ _ _ _ _ _ _ _ _ _ _ _ _ _ ((T.label m.c.k m.c.s m.c.q m.c.i m.c.j).1) ((T.label m.c.k m.c.s m.c.q m.c.i m.c.j).2) _ Zb1 Zv3 ee (by unfold T.Ms.label; simp [pb18, pb21, pb23, pb24, pb27, pb29, pb30])
            have pb29 : m.kd = 6 := of_decide_eq_true hb29
            have eb29 : m.kd = 6 := of_decide_eq_true hb29
            refine wp_cond_true (by kernel_rfl) ?_
            refine wp_skip ?_
            refine hK25 _ _ ?_
            refine wp_cond_true (by kernel_rfl) ?_
            refine wp_region_lit ?_
            with_reducible refine wv (.pointer (some ⟨g2, 7, none⟩)) ?_
            try simp only [nP, nN, nA, n0, nS]
            with_reducible refine wg (g2) (7) (m.c.cells) (rowMid Zb1 (7) (partOf 7 (by kernel_rfl))) Tryd.underlying33 ?_
            try simp only [nP, nN, nA, n0, nS]
            with_reducible refine wc 38 #[.agg (m.c.cells).toArray] (clab m.c z6) ?_
            rintro e z7 ⟨rfl, t⟩
            refine ⟨_, rfl, ?_⟩
            have Zb1 := hpB Zb1 t
            have Zv3 := hpB Zv3 t
            have ee := ee.trans (t.mono ee.size)
            clear t
            try simp only [nP, nN, nA, n0, nS]
            refine wpList_storeC 26 (g9) (0) (.agg ([.int .i64 (T.label m.c.k m.c.s m.c.q m.c.i m.c.j).1, .int .i64 (T.label m.c.k m.c.s m.c.q m.c.i m.c.j).2]).toArray) ([.int .i64 (T.label m.c.k m.c.s m.c.q m.c.i m.c.j).1, .int .i64 (T.label m.c.k m.c.s m.c.q m.c.i m.c.j).2]) (rowThere Zv3 (Nat.le_of_ble_eq_true (by kernel_rfl))) (by kernel_rfl) sizeId (allOf (by kernel_rfl)) _ _ (by kernel_rfl) rfl (by kernel_rfl) (by kernel_rfl) ?_
            have N_ : (z7.setCells (g9) (0) ([.int .i64 (T.label m.c.k m.c.s m.c.q m.c.i m.c.j).1, .int .i64 (T.label m.c.k m.c.s m.c.q m.c.i m.c.j).2])).heap[g9]? = some (.cells ([.int .i64 (T.label m.c.k m.c.s m.c.q m.c.i m.c.j).1, .int .i64 (T.label m.c.k m.c.s m.c.q m.c.i m.c.j).2]).toArray 26) := hpC ([.int .i64 (T.label m.c.k m.c.s m.c.q m.c.i m.c.j).1, .int .i64 (T.label m.c.k m.c.s m.c.q m.c.i m.c.j).2]) (0) _ z7 Zv3
            have ee := belowC (g := g9) (by omega) ([.int .i64 (T.label m.c.k m.c.s m.c.q m.c.i m.c.j).1, .int .i64 (T.label m.c.k m.c.s m.c.q m.c.i m.c.j).2]) (0) z7 ee
            have Zb1 := hpCo (g' := g9) (by omega) ([.int .i64 (T.label m.c.k m.c.s m.c.q m.c.i m.c.j).1, .int .i64 (T.label m.c.k m.c.s m.c.q m.c.i m.c.j).2]) (0) z7 Zb1
            clear Zv3
            have Zv3 := N_
            clear N_
            skip
            obtain ⟨z8, hz_⟩ : ∃ z_ : World, z_ = z7.setCells (g9) (0) ([.int .i64 (T.label m.c.k m.c.s m.c.q m.c.i m.c.j).1, .int .i64 (T.label m.c.k m.c.s m.c.q m.c.i m.c.j).2]) := ⟨_, rfl⟩
            rw [← hz_] at Zb1 Zv3 ee ⊢
            clear hz_
            try simp only [nP, nN, nA, n0, nS]
            refine wpList_nil ?_
            refine inBlock_normal ?_
            exact hjK10 _ _ _ _ _ _ _ _ _ _ _ _ _ _ _ _ _ _ _ _ ((T.label m.c.k m.c.s m.c.q m.c.i m.c.j).1) ((T.label m.c.k m.c.s m.c.q m.c.i m.c.j).2) _ Zb1 Zv3 ee (by unfold T.Ms.label; simp [pb18, pb21, pb23, pb24, pb27, pb29])
          have pb27 : m.kd = 4 := of_decide_eq_true hb27
          have eb27 : m.kd = 4 := of_decide_eq_true hb27
          refine wp_cond_true (by kernel_rfl) ?_
          refine wp_skip ?_
          refine hK25 _ _ ?_
          refine wp_cond_true (by kernel_rfl) ?_
          refine wp_region_lit ?_
          with_reducible refine wv (.pointer (some ⟨g2, 7, none⟩)) ?_
          try simp only [nP, nN, nA, n0, nS]
          with_reducible refine wg (g2) (7) (m.c.cells) (rowMid Zb1 (7) (partOf 7 (by kernel_rfl))) Tryd.underlying33 ?_
          try simp only [nP, nN, nA, n0, nS]
          with_reducible refine wc 38 #[.agg (m.c.cells).toArray] (clab m.c z6) ?_
          rintro e z7 ⟨rfl, t⟩
          refine ⟨_, rfl, ?_⟩
          have Zb1 := hpB Zb1 t
          have Zv3 := hpB Zv3 t
          have ee := ee.trans (t.mono ee.size)
          clear t
          try simp only [nP, nN, nA, n0, nS]
          refine wpList_storeC 26 (g9) (0) (.agg ([.int .i64 (T.label m.c.k m.c.s m.c.q m.c.i m.c.j).1, .int .i64 (T.label m.c.k m.c.s m.c.q m.c.i m.c.j).2]).toArray) ([.int .i64 (T.label m.c.k m.c.s m.c.q m.c.i m.c.j).1, .int .i64 (T.label m.c.k m.c.s m.c.q m.c.i m.c.j).2]) (rowThere Zv3 (Nat.le_of_ble_eq_true (by kernel_rfl))) (by kernel_rfl) sizeId (allOf (by kernel_rfl)) _ _ (by kernel_rfl) rfl (by kernel_rfl) (by kernel_rfl) ?_
          have N_ : (z7.setCells (g9) (0) ([.int .i64 (T.label m.c.k m.c.s m.c.q m.c.i m.c.j).1, .int .i64 (T.label m.c.k m.c.s m.c.q m.c.i m.c.j).2])).heap[g9]? = some (.cells ([.int .i64 (T.label m.c.k m.c.s m.c.q m.c.i m.c.j).1, .int .i64 (T.label m.c.k m.c.s m.c.q m.c.i m.c.j).2]).toArray 26) := hpC ([.int .i64 (T.label m.c.k m.c.s m.c.q m.c.i m.c.j).1, .int .i64 (T.label m.c.k m.c.s m.c.q m.c.i m.c.j).2]) (0) _ z7 Zv3
          have ee := belowC (g := g9) (by omega) ([.int .i64 (T.label m.c.k m.c.s m.c.q m.c.i m.c.j).1, .int .i64 (T.label m.c.k m.c.s m.c.q m.c.i m.c.j).2]) (0) z7 ee
          have Zb1 := hpCo (g' := g9) (by omega) ([.int .i64 (T.label m.c.k m.c.s m.c.q m.c.i m.c.j).1, .int .i64 (T.label m.c.k m.c.s m.c.q m.c.i m.c.j).2]) (0) z7 Zb1
          clear Zv3
          have Zv3 := N_
          clear N_
          skip
          obtain ⟨z8, hz_⟩ : ∃ z_ : World, z_ = z7.setCells (g9) (0) ([.int .i64 (T.label m.c.k m.c.s m.c.q m.c.i m.c.j).1, .int .i64 (T.label m.c.k m.c.s m.c.q m.c.i m.c.j).2]) := ⟨_, rfl⟩
          rw [← hz_] at Zb1 Zv3 ee ⊢
          clear hz_
          try simp only [nP, nN, nA, n0, nS]
          refine wpList_nil ?_
          refine inBlock_normal ?_
          exact hjK10 _ _ _ _ _ _ _ _ _ _ _ _ _ _ _ _ _ _ _ _ ((T.label m.c.k m.c.s m.c.q m.c.i m.c.j).1) ((T.label m.c.k m.c.s m.c.q m.c.i m.c.j).2) _ Zb1 Zv3 ee (by unfold T.Ms.label; simp [pb18, pb21, pb23, pb24, pb27])
        have pb24 : m.kd = 11 := of_decide_eq_true hb24
        have eb24 : m.kd = 11 := of_decide_eq_true hb24
        refine wp_cond_true (by kernel_rfl) ?_
        refine wp_region_lit ?_
        with_reducible refine wv (.pointer (some ⟨g2, 21, none⟩)) ?_
        try simp only [nP, nN, nA, n0, nS]
        with_reducible refine wg (g2) (21) ([.int .i64 m.ii, .int .i64 m.ij]) (rowMid Zb1 (21) (partOf 21 (by kernel_rfl))) Tryd.underlying26 ?_
        try simp only [nP, nN, nA, n0, nS]
        refine wpList_storeC 26 (g9) (0) (.agg ([.int .i64 m.ii, .int .i64 m.ij]).toArray) ([.int .i64 m.ii, .int .i64 m.ij]) (rowThere Zv3 (Nat.le_of_ble_eq_true (by kernel_rfl))) (by kernel_rfl) sizeId (allOf (by kernel_rfl)) _ _ (by kernel_rfl) rfl (by kernel_rfl) (by kernel_rfl) ?_
        have N_ : (z6.setCells (g9) (0) ([.int .i64 m.ii, .int .i64 m.ij])).heap[g9]? = some (.cells ([.int .i64 m.ii, .int .i64 m.ij]).toArray 26) := hpC ([.int .i64 m.ii, .int .i64 m.ij]) (0) _ z6 Zv3
        have ee := belowC (g := g9) (by omega) ([.int .i64 m.ii, .int .i64 m.ij]) (0) z6 ee
        have Zb1 := hpCo (g' := g9) (by omega) ([.int .i64 m.ii, .int .i64 m.ij]) (0) z6 Zb1
        clear Zv3
        have Zv3 := N_
        clear N_
        skip
        obtain ⟨z7, hz_⟩ : ∃ z_ : World, z_ = z6.setCells (g9) (0) ([.int .i64 m.ii, .int .i64 m.ij]) := ⟨_, rfl⟩
        rw [← hz_] at Zb1 Zv3 ee ⊢
        clear hz_
        try simp only [nP, nN, nA, n0, nS]
        refine wpList_nil ?_
        refine inBlock_normal ?_
        exact hjK10 _ _ _ _ _ _ _ _ _ _ _ _ _ _ _ _ _ _ _ _ m.ii m.ij _ Zb1 Zv3 ee (by unfold T.Ms.label; simp [pb18, pb21, pb23, pb24])
      have pb23 : m.kd = 10 := of_decide_eq_true hb23
      have eb23 : m.kd = 10 := of_decide_eq_true hb23
      refine wp_cond_true (by kernel_rfl) ?_
      refine wp_skip ?_
      refine hK19 _ _ ?_
      refine wp_cond_true (by kernel_rfl) ?_
      refine wp_region_lit ?_
      with_reducible refine wv (.pointer (some ⟨g2, 21, none⟩)) ?_
      try simp only [nP, nN, nA, n0, nS]
      with_reducible refine wg (g2) (21) ([.int .i64 m.ii, .int .i64 m.ij]) (rowMid Zb1 (21) (partOf 21 (by kernel_rfl))) Tryd.underlying26 ?_
      try simp only [nP, nN, nA, n0, nS]
      refine wpList_storeC 26 (g9) (0) (.agg ([.int .i64 m.ii, .int .i64 m.ij]).toArray) ([.int .i64 m.ii, .int .i64 m.ij]) (rowThere Zv3 (Nat.le_of_ble_eq_true (by kernel_rfl))) (by kernel_rfl) sizeId (allOf (by kernel_rfl)) _ _ (by kernel_rfl) rfl (by kernel_rfl) (by kernel_rfl) ?_
      have N_ : (z6.setCells (g9) (0) ([.int .i64 m.ii, .int .i64 m.ij])).heap[g9]? = some (.cells ([.int .i64 m.ii, .int .i64 m.ij]).toArray 26) := hpC ([.int .i64 m.ii, .int .i64 m.ij]) (0) _ z6 Zv3
      have ee := belowC (g := g9) (by omega) ([.int .i64 m.ii, .int .i64 m.ij]) (0) z6 ee
      have Zb1 := hpCo (g' := g9) (by omega) ([.int .i64 m.ii, .int .i64 m.ij]) (0) z6 Zb1
      clear Zv3
      have Zv3 := N_
      clear N_
      skip
      obtain ⟨z7, hz_⟩ : ∃ z_ : World, z_ = z6.setCells (g9) (0) ([.int .i64 m.ii, .int .i64 m.ij]) := ⟨_, rfl⟩
      rw [← hz_] at Zb1 Zv3 ee ⊢
      clear hz_
      try simp only [nP, nN, nA, n0, nS]
      refine wpList_nil ?_
      refine inBlock_normal ?_
      exact hjK10 _ _ _ _ _ _ _ _ _ _ _ _ _ _ _ _ _ _ _ _ m.ii m.ij _ Zb1 Zv3 ee (by unfold T.Ms.label; simp [pb18, pb21, pb23])
    have pb21 : m.kd = 9 := of_decide_eq_true hb21
    have eb21 : m.kd = 9 := of_decide_eq_true hb21
    refine wp_cond_true (by kernel_rfl) ?_
    refine wp_skip ?_
    refine hK19 _ _ ?_
    refine wp_cond_true (by kernel_rfl) ?_
    refine wp_region_lit ?_
    with_reducible refine wv (.pointer (some ⟨g2, 21, none⟩)) ?_
    try simp only [nP, nN, nA, n0, nS]
    with_reducible refine wg (g2) (21) ([.int .i64 m.ii, .int .i64 m.ij]) (rowMid Zb1 (21) (partOf 21 (by kernel_rfl))) Tryd.underlying26 ?_
    try simp only [nP, nN, nA, n0, nS]
    refine wpList_storeC 26 (g9) (0) (.agg ([.int .i64 m.ii, .int .i64 m.ij]).toArray) ([.int .i64 m.ii, .int .i64 m.ij]) (rowThere Zv3 (Nat.le_of_ble_eq_true (by kernel_rfl))) (by kernel_rfl) sizeId (allOf (by kernel_rfl)) _ _ (by kernel_rfl) rfl (by kernel_rfl) (by kernel_rfl) ?_
    have N_ : (z6.setCells (g9) (0) ([.int .i64 m.ii, .int .i64 m.ij])).heap[g9]? = some (.cells ([.int .i64 m.ii, .int .i64 m.ij]).toArray 26) := hpC ([.int .i64 m.ii, .int .i64 m.ij]) (0) _ z6 Zv3
    have ee := belowC (g := g9) (by omega) ([.int .i64 m.ii, .int .i64 m.ij]) (0) z6 ee
    have Zb1 := hpCo (g' := g9) (by omega) ([.int .i64 m.ii, .int .i64 m.ij]) (0) z6 Zb1
    clear Zv3
    have Zv3 := N_
    clear N_
    skip
    obtain ⟨z7, hz_⟩ : ∃ z_ : World, z_ = z6.setCells (g9) (0) ([.int .i64 m.ii, .int .i64 m.ij]) := ⟨_, rfl⟩
    rw [← hz_] at Zb1 Zv3 ee ⊢
    clear hz_
    try simp only [nP, nN, nA, n0, nS]
    refine wpList_nil ?_
    refine inBlock_normal ?_
    exact hjK10 _ _ _ _ _ _ _ _ _ _ _ _ _ _ _ _ _ _ _ _ m.ii m.ij _ Zb1 Zv3 ee (by unfold T.Ms.label; simp [pb18, pb21])
  have pb18 : m.kd = 8 := of_decide_eq_true hb18
  have eb18 : m.kd = 8 := of_decide_eq_true hb18
  refine wp_cond_true (by kernel_rfl) ?_
  refine wp_region_lit ?_
  with_reducible refine wv (.pointer (some ⟨g2, 17, none⟩)) ?_
  try simp only [nP, nN, nA, n0, nS]
  with_reducible refine wv (.pointer (some ⟨g2, 17, none⟩)) ?_
  try simp only [nP, nN, nA, n0, nS]
  with_reducible refine wg (g2) (17) ([.int .i64 m.t.s, .int .i64 m.t.q]) (rowMid Zb1 (17) (partOf 17 (by kernel_rfl))) Tryd.underlying26 ?_
  try simp only [nP, nN, nA, n0, nS]
  refine wpList_storeC 26 (g9) (0) (.agg ([.int .i64 m.t.s, .int .i64 m.t.q]).toArray) ([.int .i64 m.t.s, .int .i64 m.t.q]) (rowThere Zv3 (Nat.le_of_ble_eq_true (by kernel_rfl))) (by kernel_rfl) sizeId (allOf (by kernel_rfl)) _ _ (by kernel_rfl) rfl (by kernel_rfl) (by kernel_rfl) ?_
  have N_ : (z6.setCells (g9) (0) ([.int .i64 m.t.s, .int .i64 m.t.q])).heap[g9]? = some (.cells ([.int .i64 m.t.s, .int .i64 m.t.q]).toArray 26) := hpC ([.int .i64 m.t.s, .int .i64 m.t.q]) (0) _ z6 Zv3
  have ee := belowC (g := g9) (by omega) ([.int .i64 m.t.s, .int .i64 m.t.q]) (0) z6 ee
  have Zb1 := hpCo (g' := g9) (by omega) ([.int .i64 m.t.s, .int .i64 m.t.q]) (0) z6 Zb1
  clear Zv3
  have Zv3 := N_
  clear N_
  skip
  obtain ⟨z7, hz_⟩ : ∃ z_ : World, z_ = z6.setCells (g9) (0) ([.int .i64 m.t.s, .int .i64 m.t.q]) := ⟨_, rfl⟩
  rw [← hz_] at Zb1 Zv3 ee ⊢
  clear hz_
  try simp only [nP, nN, nA, n0, nS]
  refine wpList_nil ?_
  refine inBlock_normal ?_
  exact hjK10 _ _ _ _ _ _ _ _ _ _ _ _ _ _ _ _ _ _ _ _ m.t.s m.t.q _ Zb1 Zv3 ee (by unfold T.Ms.label; simp [pb18])
theorem messageLabels_walk (W : World) (hT : Tabs W) (v0 : Value) (h0 : Arg W 39 v0) :
    Calls Tryd.prog 10 #[v0] W fun e W' => e = .returned (.bool true) ∧ Below W.heap.size W W' := by
  obtain ⟨m, rfl, ok⟩ := h0.ms
  exact mlabels_any m W ok hT
end Go.Proofs.YtjofjpmhokjhnaaDoor
