/- few, plain, awake of the laws over messages. Conditions: what lies, lies below. (Printed by gen_msg.py.) -/
import Derived.Test.YtjofjpmhokjhnaaDoorMsgH
import Derived.Test.YtjofjpmhokjhnaaDoorFast
import Derived.Test.YtjofjpmhokjhnaaDoorTxnG
namespace Go.Proofs.YtjofjpmhokjhnaaDoor
set_option maxRecDepth 20000
open Go.RowKit T
set_option linter.unusedSimpArgs false
set_option linter.unusedVariables false

theorem sizeMr : (Tryd.prog.info? 47).map (·.size) = some 34 := by kernel_rfl
theorem sizeCr : (Tryd.prog.info? 45).map (·.size) = some 10 := by kernel_rfl
theorem sizeBr : (Tryd.prog.info? 44).map (·.size) = some 2 := by kernel_rfl
set_option maxHeartbeats 25600000 in
theorem mplain_any (m : Ms) (w : World) :
    Calls Tryd.prog 15 #[.agg m.cells.toArray] w fun e w' => e = .returned (.agg m.cells.toArray) ∧ Below w.heap.size w w' := by
  have ee : Below w.heap.size w w := Below.refl _ _
  go_enter Tryd.func15, Tryd.ntmps15
  refine wp_seq_k fun K1 hK1 => ?_
  refine wp_region_lit ?_
  with_reducible refine wpList_w (.pointer (some ⟨w.heap.size, 0, none⟩)) (w.alloc (.cells (m.cells).toArray 39)) (by kernel_rfl) (by kernel_rfl) ?_
  try simp only [Act.put, List.getElem_toArray, List.getElem_cons_zero, List.getElem_cons_succ, List.setIfInBounds_toArray, List.set_cons_zero, List.set_cons_succ]
  have sz_g2 := ee.size
  have sz_ := ee.size
  have ee := ee.alloc ee.size (.cells (m.cells).toArray 39)
  have Zb1 := hpN w (.cells (m.cells).toArray 39) rfl
  generalize w.alloc (.cells (m.cells).toArray 39) = z1 at Zb1 ee ⊢
  obtain ⟨g2, hg_g2⟩ : ∃ g_, g_ = w.heap.size := ⟨_, rfl⟩
  have hB_g2 : w.heap.size ≤ g2 := by rw [hg_g2]; exact sz_g2
  rw [← hg_g2] at Zb1 ⊢
  clear hg_g2
  with_reducible refine wpList_w (.pointer (some ⟨z1.heap.size, 0, none⟩)) (z1.alloc (.cells #[.int .i64 0, .int .u32 0, .int .i64 0, .int .i64 0, .bool false, .int .u32 0, .int .i64 0, .int .i64 0, .int .i64 0, .int .i64 0, .slice none 0 0, .slice none 0 0, .int .i64 0, .int .i64 0, .int .i64 0, .int .u64 0, .bool false, .int .i64 0, .int .i64 0, .slice none 0 0, .slice none 0 0, .int .i64 0, .int .i64 0, .int .i64 0, .int .u64 0, .bool false, .int .i64 0, .string ByteArray.empty, .int .u64 0, .int .i64 0, .int .u64 0, .string ByteArray.empty, .int .i64 0, .slice none 0 0] 47)) (by kernel_rfl) (by kernel_rfl) ?_
  try simp only [Act.put, List.getElem_toArray, List.getElem_cons_zero, List.getElem_cons_succ, List.setIfInBounds_toArray, List.set_cons_zero, List.set_cons_succ]
  have sz_g3 := ee.size
  have lZb1 := (Array.getElem?_eq_some_iff.1 Zb1).1
  have sz_ := ee.size
  have Zb1 := hpA Zb1 (.cells #[.int .i64 0, .int .u32 0, .int .i64 0, .int .i64 0, .bool false, .int .u32 0, .int .i64 0, .int .i64 0, .int .i64 0, .int .i64 0, .slice none 0 0, .slice none 0 0, .int .i64 0, .int .i64 0, .int .i64 0, .int .u64 0, .bool false, .int .i64 0, .int .i64 0, .slice none 0 0, .slice none 0 0, .int .i64 0, .int .i64 0, .int .i64 0, .int .u64 0, .bool false, .int .i64 0, .string ByteArray.empty, .int .u64 0, .int .i64 0, .int .u64 0, .string ByteArray.empty, .int .i64 0, .slice none 0 0] 47)
  have ee := ee.alloc ee.size (.cells #[.int .i64 0, .int .u32 0, .int .i64 0, .int .i64 0, .bool false, .int .u32 0, .int .i64 0, .int .i64 0, .int .i64 0, .int .i64 0, .slice none 0 0, .slice none 0 0, .int .i64 0, .int .i64 0, .int .i64 0, .int .u64 0, .bool false, .int .i64 0, .int .i64 0, .slice none 0 0, .slice none 0 0, .int .i64 0, .int .i64 0, .int .i64 0, .int .u64 0, .bool false, .int .i64 0, .string ByteArray.empty, .int .u64 0, .int .i64 0, .int .u64 0, .string ByteArray.empty, .int .i64 0, .slice none 0 0] 47)
  have Zv2 := hpN z1 (.cells #[.int .i64 0, .int .u32 0, .int .i64 0, .int .i64 0, .bool false, .int .u32 0, .int .i64 0, .int .i64 0, .int .i64 0, .int .i64 0, .slice none 0 0, .slice none 0 0, .int .i64 0, .int .i64 0, .int .i64 0, .int .u64 0, .bool false, .int .i64 0, .int .i64 0, .slice none 0 0, .slice none 0 0, .int .i64 0, .int .i64 0, .int .i64 0, .int .u64 0, .bool false, .int .i64 0, .string ByteArray.empty, .int .u64 0, .int .i64 0, .int .u64 0, .string ByteArray.empty, .int .i64 0, .slice none 0 0] 47) rfl
  generalize z1.alloc (.cells #[.int .i64 0, .int .u32 0, .int .i64 0, .int .i64 0, .bool false, .int .u32 0, .int .i64 0, .int .i64 0, .int .i64 0, .int .i64 0, .slice none 0 0, .slice none 0 0, .int .i64 0, .int .i64 0, .int .i64 0, .int .u64 0, .bool false, .int .i64 0, .int .i64 0, .slice none 0 0, .slice none 0 0, .int .i64 0, .int .i64 0, .int .i64 0, .int .u64 0, .bool false, .int .i64 0, .string ByteArray.empty, .int .u64 0, .int .i64 0, .int .u64 0, .string ByteArray.empty, .int .i64 0, .slice none 0 0] 47) = z2 at Zb1 Zv2 ee ⊢
  obtain ⟨g3, hg_g3⟩ : ∃ g_, g_ = z1.heap.size := ⟨_, rfl⟩
  have n_g3_Zb1 : g2 < g3 := by rw [hg_g3]; exact lZb1
  have hB_g3 : w.heap.size ≤ g3 := by rw [hg_g3]; exact sz_g3
  rw [← hg_g3] at Zv2 ⊢
  clear hg_g3 lZb1
  refine wpList_nil ?_
  refine hK1 _ _ ?_
  refine wp_seq_k fun K4 hK4 => ?_
  refine wp_region_lit ?_
  with_reducible refine wpList_v (.pointer (some ⟨g2, 0, none⟩)) (by kernel_rfl) (by kernel_rfl) ?_
  try simp only [Act.put, List.getElem_toArray, List.getElem_cons_zero, List.getElem_cons_succ, List.setIfInBounds_toArray, List.set_cons_zero, List.set_cons_succ]
  refine wpList_load1 (.int .i64 m.kd) ⟨g2, 0, none⟩ 3 _ _ (rowCell Zb1 (0) rfl) (by kernel_rfl) rfl (by kernel_rfl) Tryd.underlying3 rfl ?_
  try simp only [Act.put, List.getElem_toArray, List.getElem_cons_zero, List.getElem_cons_succ, List.setIfInBounds_toArray, List.set_cons_zero, List.set_cons_succ]
  with_reducible refine wpList_v (.pointer (some ⟨g2, 1, none⟩)) (by kernel_rfl) (by kernel_rfl) ?_
  try simp only [Act.put, List.getElem_toArray, List.getElem_cons_zero, List.getElem_cons_succ, List.setIfInBounds_toArray, List.set_cons_zero, List.set_cons_succ]
  refine wpList_load_g (by kernel_rfl) 24 _ rfl (g2) (1) (by kernel_rfl) ([.int .u32 (m.br : Int), .int .i64 m.bn]) _ (rowMid Zb1 (1) (partOf 1 (by kernel_rfl))) Tryd.underlying24 rfl sizeBal ?_
  try simp only [Act.put, List.getElem_toArray, List.getElem_cons_zero, List.getElem_cons_succ, List.setIfInBounds_toArray, List.set_cons_zero, List.set_cons_succ]
  with_reducible refine wpList_v (.pointer (some ⟨g2, 3, none⟩)) (by kernel_rfl) (by kernel_rfl) ?_
  try simp only [Act.put, List.getElem_toArray, List.getElem_cons_zero, List.getElem_cons_succ, List.setIfInBounds_toArray, List.set_cons_zero, List.set_cons_succ]
  refine wpList_load1 (.int .i64 m.sl) ⟨g2, 3, none⟩ 3 _ _ (rowCell Zb1 (3) rfl) (by kernel_rfl) rfl (by kernel_rfl) Tryd.underlying3 rfl ?_
  try simp only [Act.put, List.getElem_toArray, List.getElem_cons_zero, List.getElem_cons_succ, List.setIfInBounds_toArray, List.set_cons_zero, List.set_cons_succ]
  with_reducible refine wpList_v (.pointer (some ⟨g2, 4, none⟩)) (by kernel_rfl) (by kernel_rfl) ?_
  try simp only [Act.put, List.getElem_toArray, List.getElem_cons_zero, List.getElem_cons_succ, List.setIfInBounds_toArray, List.set_cons_zero, List.set_cons_succ]
  refine wpList_load1 (.bool m.ha) ⟨g2, 4, none⟩ 4 _ _ (rowCell Zb1 (4) rfl) (by kernel_rfl) rfl (by kernel_rfl) Tryd.underlying4 rfl ?_
  try simp only [Act.put, List.getElem_toArray, List.getElem_cons_zero, List.getElem_cons_succ, List.setIfInBounds_toArray, List.set_cons_zero, List.set_cons_succ]
  with_reducible refine wpList_v (.pointer (some ⟨g2, 5, none⟩)) (by kernel_rfl) (by kernel_rfl) ?_
  try simp only [Act.put, List.getElem_toArray, List.getElem_cons_zero, List.getElem_cons_succ, List.setIfInBounds_toArray, List.set_cons_zero, List.set_cons_succ]
  refine wpList_load_g (by kernel_rfl) 24 _ rfl (g2) (5) (by kernel_rfl) ([.int .u32 (m.vr : Int), .int .i64 m.vn]) _ (rowMid Zb1 (5) (partOf 5 (by kernel_rfl))) Tryd.underlying24 rfl sizeBal ?_
  try simp only [Act.put, List.getElem_toArray, List.getElem_cons_zero, List.getElem_cons_succ, List.setIfInBounds_toArray, List.set_cons_zero, List.set_cons_succ]
  with_reducible refine wpList_v (.pointer (some ⟨g2, 7, none⟩)) (by kernel_rfl) (by kernel_rfl) ?_
  try simp only [Act.put, List.getElem_toArray, List.getElem_cons_zero, List.getElem_cons_succ, List.setIfInBounds_toArray, List.set_cons_zero, List.set_cons_succ]
  refine wpList_load_g (by kernel_rfl) 33 _ rfl (g2) (7) (by kernel_rfl) (m.c.cells) _ (rowMid Zb1 (7) (partOf 7 (by kernel_rfl))) Tryd.underlying33 rfl sizeCm ?_
  try simp only [Act.put, List.getElem_toArray, List.getElem_cons_zero, List.getElem_cons_succ, List.setIfInBounds_toArray, List.set_cons_zero, List.set_cons_succ]
  with_reducible refine wpList_v (.pointer (some ⟨g2, 17, none⟩)) (by kernel_rfl) (by kernel_rfl) ?_
  try simp only [Act.put, List.getElem_toArray, List.getElem_cons_zero, List.getElem_cons_succ, List.setIfInBounds_toArray, List.set_cons_zero, List.set_cons_succ]
  refine wpList_load_g (by kernel_rfl) 30 _ rfl (g2) (17) (by kernel_rfl) (m.t.cells) _ (rowMid Zb1 (17) (partOf 17 (by kernel_rfl))) Tryd.underlying30 rfl sizeTn ?_
  try simp only [Act.put, List.getElem_toArray, List.getElem_cons_zero, List.getElem_cons_succ, List.setIfInBounds_toArray, List.set_cons_zero, List.set_cons_succ]
  with_reducible refine wpList_v (.pointer (some ⟨g2, 21, none⟩)) (by kernel_rfl) (by kernel_rfl) ?_
  try simp only [Act.put, List.getElem_toArray, List.getElem_cons_zero, List.getElem_cons_succ, List.setIfInBounds_toArray, List.set_cons_zero, List.set_cons_succ]
  refine wpList_load_g (by kernel_rfl) 26 _ rfl (g2) (21) (by kernel_rfl) ([.int .i64 m.ii, .int .i64 m.ij]) _ (rowMid Zb1 (21) (partOf 21 (by kernel_rfl))) Tryd.underlying26 rfl sizeId ?_
  try simp only [Act.put, List.getElem_toArray, List.getElem_cons_zero, List.getElem_cons_succ, List.setIfInBounds_toArray, List.set_cons_zero, List.set_cons_succ]
  with_reducible refine wpList_v (.pointer (some ⟨g2, 23, none⟩)) (by kernel_rfl) (by kernel_rfl) ?_
  try simp only [Act.put, List.getElem_toArray, List.getElem_cons_zero, List.getElem_cons_succ, List.setIfInBounds_toArray, List.set_cons_zero, List.set_cons_succ]
  refine wpList_load1 (.int .i64 m.g) ⟨g2, 23, none⟩ 3 _ _ (rowCell Zb1 (23) rfl) (by kernel_rfl) rfl (by kernel_rfl) Tryd.underlying3 rfl ?_
  try simp only [Act.put, List.getElem_toArray, List.getElem_cons_zero, List.getElem_cons_succ, List.setIfInBounds_toArray, List.set_cons_zero, List.set_cons_succ]
  with_reducible refine wpList_v (.pointer (some ⟨g2, 24, none⟩)) (by kernel_rfl) (by kernel_rfl) ?_
  try simp only [Act.put, List.getElem_toArray, List.getElem_cons_zero, List.getElem_cons_succ, List.setIfInBounds_toArray, List.set_cons_zero, List.set_cons_succ]
  refine wpList_load1 (.int .u64 ((m.st : Int))) ⟨g2, 24, none⟩ 31 _ _ (rowCell Zb1 (24) rfl) (by kernel_rfl) rfl (by kernel_rfl) Tryd.underlying31 rfl ?_
  try simp only [Act.put, List.getElem_toArray, List.getElem_cons_zero, List.getElem_cons_succ, List.setIfInBounds_toArray, List.set_cons_zero, List.set_cons_succ]
  with_reducible refine wpList_v (.pointer (some ⟨g2, 25, none⟩)) (by kernel_rfl) (by kernel_rfl) ?_
  try simp only [Act.put, List.getElem_toArray, List.getElem_cons_zero, List.getElem_cons_succ, List.setIfInBounds_toArray, List.set_cons_zero, List.set_cons_succ]
  refine wpList_load1 (.bool m.ye) ⟨g2, 25, none⟩ 4 _ _ (rowCell Zb1 (25) rfl) (by kernel_rfl) rfl (by kernel_rfl) Tryd.underlying4 rfl ?_
  try simp only [Act.put, List.getElem_toArray, List.getElem_cons_zero, List.getElem_cons_succ, List.setIfInBounds_toArray, List.set_cons_zero, List.set_cons_succ]
  with_reducible refine wpList_v (.pointer (some ⟨g2, 26, none⟩)) (by kernel_rfl) (by kernel_rfl) ?_
  try simp only [Act.put, List.getElem_toArray, List.getElem_cons_zero, List.getElem_cons_succ, List.setIfInBounds_toArray, List.set_cons_zero, List.set_cons_succ]
  refine wpList_load1 (.int .i64 m.nu) ⟨g2, 26, none⟩ 3 _ _ (rowCell Zb1 (26) rfl) (by kernel_rfl) rfl (by kernel_rfl) Tryd.underlying3 rfl ?_
  try simp only [Act.put, List.getElem_toArray, List.getElem_cons_zero, List.getElem_cons_succ, List.setIfInBounds_toArray, List.set_cons_zero, List.set_cons_succ]
  with_reducible refine wpList_v (.pointer (some ⟨g2, 27, none⟩)) (by kernel_rfl) (by kernel_rfl) ?_
  try simp only [Act.put, List.getElem_toArray, List.getElem_cons_zero, List.getElem_cons_succ, List.setIfInBounds_toArray, List.set_cons_zero, List.set_cons_succ]
  refine wpList_load1 (.string m.ky) ⟨g2, 27, none⟩ 9 _ _ (rowCell Zb1 (27) rfl) (by kernel_rfl) rfl (by kernel_rfl) Tryd.underlying9 rfl ?_
  try simp only [Act.put, List.getElem_toArray, List.getElem_cons_zero, List.getElem_cons_succ, List.setIfInBounds_toArray, List.set_cons_zero, List.set_cons_succ]
  with_reducible refine wpList_v (.pointer (some ⟨g2, 28, none⟩)) (by kernel_rfl) (by kernel_rfl) ?_
  try simp only [Act.put, List.getElem_toArray, List.getElem_cons_zero, List.getElem_cons_succ, List.setIfInBounds_toArray, List.set_cons_zero, List.set_cons_succ]
  refine wpList_load1 (.int .u64 ((m.ve : Int))) ⟨g2, 28, none⟩ 31 _ _ (rowCell Zb1 (28) rfl) (by kernel_rfl) rfl (by kernel_rfl) Tryd.underlying31 rfl ?_
  try simp only [Act.put, List.getElem_toArray, List.getElem_cons_zero, List.getElem_cons_succ, List.setIfInBounds_toArray, List.set_cons_zero, List.set_cons_succ]
  with_reducible refine wpList_v (.pointer (some ⟨g2, 29, none⟩)) (by kernel_rfl) (by kernel_rfl) ?_
  try simp only [Act.put, List.getElem_toArray, List.getElem_cons_zero, List.getElem_cons_succ, List.setIfInBounds_toArray, List.set_cons_zero, List.set_cons_succ]
  refine wpList_load_g (by kernel_rfl) 35 _ rfl (g2) (29) (by kernel_rfl) ([.int .i64 m.vk, .int .u64 (m.vb : Int), .string m.vt]) _ (rowMid Zb1 (29) (partOf 29 (by kernel_rfl))) Tryd.underlying35 rfl sizeVal ?_
  try simp only [Act.put, List.getElem_toArray, List.getElem_cons_zero, List.getElem_cons_succ, List.setIfInBounds_toArray, List.set_cons_zero, List.set_cons_succ]
  with_reducible refine wpList_v (.pointer (some ⟨g2, 32, none⟩)) (by kernel_rfl) (by kernel_rfl) ?_
  try simp only [Act.put, List.getElem_toArray, List.getElem_cons_zero, List.getElem_cons_succ, List.setIfInBounds_toArray, List.set_cons_zero, List.set_cons_succ]
  refine wpList_load1 (.int .i64 m.er) ⟨g2, 32, none⟩ 36 _ _ (rowCell Zb1 (32) rfl) (by kernel_rfl) rfl (by kernel_rfl) Tryd.underlying36 rfl ?_
  try simp only [Act.put, List.getElem_toArray, List.getElem_cons_zero, List.getElem_cons_succ, List.setIfInBounds_toArray, List.set_cons_zero, List.set_cons_succ]
  with_reducible refine wpList_v (.pointer (some ⟨g2, 33, none⟩)) (by kernel_rfl) (by kernel_rfl) ?_
  try simp only [Act.put, List.getElem_toArray, List.getElem_cons_zero, List.getElem_cons_succ, List.setIfInBounds_toArray, List.set_cons_zero, List.set_cons_succ]
  refine wpList_load1 (.slice m.D m.dt.length m.dc) ⟨g2, 33, none⟩ 37 _ _ (rowCell Zb1 (33) rfl) (by kernel_rfl) rfl (by kernel_rfl) Tryd.underlying37 rfl ?_
  try simp only [Act.put, List.getElem_toArray, List.getElem_cons_zero, List.getElem_cons_succ, List.setIfInBounds_toArray, List.set_cons_zero, List.set_cons_succ]
  with_reducible refine wpList_v (.agg (m.cells).toArray) (by kernel_rfl) (by kernel_rfl) ?_
  try simp only [Act.put, List.getElem_toArray, List.getElem_cons_zero, List.getElem_cons_succ, List.setIfInBounds_toArray, List.set_cons_zero, List.set_cons_succ]
  refine wpList_store_row rfl 47 _ _ rfl (g3) (m.cells).toArray rfl rfl 47 _ Zv2 sizeMr (by rfl) (Ms.one _) ?_
  have N_ := setRow_heap z2 (g3) _ (m.cells).toArray _ _ Zv2
  have ee := belowSet (cs := (m.cells).toArray) ee Zv2 (by omega)
  have Zb1 := hpR Zb1 (g' := g3) (by omega) (m.cells).toArray
  clear Zv2
  have Zv2 := N_
  clear N_
  generalize z2.setRow (g3) (m.cells).toArray = z3 at Zb1 Zv2 ee ⊢
  try simp only [Act.put, List.getElem_toArray, List.getElem_cons_zero, List.getElem_cons_succ, List.setIfInBounds_toArray, List.set_cons_zero, List.set_cons_succ]
  refine wpList_nil ?_
  refine hK4 _ _ ?_
  refine wp_ret ?_
  exact bodyPost_ret (v := .agg m.cells.toArray) (res_c rfl (by kernel_rfl) Zv2 Tryd.underlying47 rfl sizeMr) rfl ⟨rfl, ee⟩
/-- a message of a size that is looked at -/
def T.Ms.small (m : Ms) : Prop := m.ky.size ≤ 1000 ∧ m.vt.size ≤ 1000 ∧ m.dt.length ≤ 70000
def FewIs (P : Prop) (e : Ending) : Prop := ∃ r : Bool, e = .returned (.bool r) ∧ (r = true → P)
set_option maxHeartbeats 25600000 in
theorem rfewM_any (m : Ms) (w : World) (B0 : Nat) (hB : B0 ≤ w.heap.size) (ok : MsOk w B0 m) :
    Calls Tryd.prog 39 #[.agg m.cells.toArray] w fun e w' => FewIs m.small e ∧ Below w.heap.size w w' := by
  have ee : Below w.heap.size w w := Below.refl _ _
  go_enter Tryd.func39, Tryd.ntmps39
  refine wp_seq_k fun K1 hK1 => ?_
  refine wp_region_lit ?_
  with_reducible refine wpList_w (.pointer (some ⟨w.heap.size, 0, none⟩)) (w.alloc (.cells (m.cells).toArray 47)) (by kernel_rfl) (by kernel_rfl) ?_
  try simp only [Act.put, List.getElem_toArray, List.getElem_cons_zero, List.getElem_cons_succ, List.setIfInBounds_toArray, List.set_cons_zero, List.set_cons_succ]
  have sz_g2 := ee.size
  have sz_ := ee.size
  have ee := ee.alloc ee.size (.cells (m.cells).toArray 47)
  have Zb1 := hpN w (.cells (m.cells).toArray 47) rfl
  generalize w.alloc (.cells (m.cells).toArray 47) = z1 at Zb1 ee ⊢
  obtain ⟨g2, hg_g2⟩ : ∃ g_, g_ = w.heap.size := ⟨_, rfl⟩
  have hB_g2 : w.heap.size ≤ g2 := by rw [hg_g2]; exact sz_g2
  rw [← hg_g2] at Zb1 ⊢
  clear hg_g2
  with_reducible refine wpList_v (.bool false) (by kernel_rfl) (by kernel_rfl) ?_
  try simp only [Act.put, List.getElem_toArray, List.getElem_cons_zero, List.getElem_cons_succ, List.setIfInBounds_toArray, List.set_cons_zero, List.set_cons_succ]
  refine wpList_nil ?_
  refine hK1 _ _ ?_
  refine wp_seq_k fun K3 hK3 => ?_
  refine wp_region_lit ?_
  with_reducible refine wpList_v (.pointer (some ⟨g2, 7, none⟩)) (by kernel_rfl) (by kernel_rfl) ?_
  try simp only [Act.put, List.getElem_toArray, List.getElem_cons_zero, List.getElem_cons_succ, List.setIfInBounds_toArray, List.set_cons_zero, List.set_cons_succ]
  refine wpList_load_g (by kernel_rfl) 45 _ rfl (g2) (7) (by kernel_rfl) (m.c.cells) _ (rowMid Zb1 (7) (partOf 7 (by kernel_rfl))) Tryd.underlying45 rfl sizeCr ?_
  try simp only [Act.put, List.getElem_toArray, List.getElem_cons_zero, List.getElem_cons_succ, List.setIfInBounds_toArray, List.set_cons_zero, List.set_cons_succ]
  refine wpList_fcall 96 #[.agg (m.c.cells).toArray] (rfew_any m.c.k m.c.s m.c.q m.c.rs m.c.ws m.c.A1 m.c.c1 m.c.A2 m.c.c2 m.c.i m.c.j m.c.g m.c.st m.c.y z1 B0 (Nat.le_trans hB ee.size) (ok.c.below ee hB)) (by kernel_rfl) (by kernel_rfl) ?_
  rintro e z2 ⟨⟨r1, rfl⟩, t⟩
  refine ⟨_, rfl, ?_⟩
  have Zb1 := hpB Zb1 t
  have ee := ee.trans (t.mono ee.size)
  clear t
  try simp only [Act.put, List.getElem_toArray, List.getElem_cons_zero, List.getElem_cons_succ, List.setIfInBounds_toArray, List.set_cons_zero, List.set_cons_succ]
  with_reducible refine wpList_v (.bool r1) (by kernel_rfl) (by kernel_rfl) ?_
  try simp only [Act.put, List.getElem_toArray, List.getElem_cons_zero, List.getElem_cons_succ, List.setIfInBounds_toArray, List.set_cons_zero, List.set_cons_succ]
  cases r1 with
  | false =>
    with_reducible refine wpList_skip (by kernel_rfl) ?_
    try simp only [Act.put, List.getElem_toArray, List.getElem_cons_zero, List.getElem_cons_succ, List.setIfInBounds_toArray, List.set_cons_zero, List.set_cons_succ]
    with_reducible refine wpList_skip (by kernel_rfl) ?_
    try simp only [Act.put, List.getElem_toArray, List.getElem_cons_zero, List.getElem_cons_succ, List.setIfInBounds_toArray, List.set_cons_zero, List.set_cons_succ]
    with_reducible refine wpList_skip (by kernel_rfl) ?_
    try simp only [Act.put, List.getElem_toArray, List.getElem_cons_zero, List.getElem_cons_succ, List.setIfInBounds_toArray, List.set_cons_zero, List.set_cons_succ]
    with_reducible refine wpList_v (.bool false) (by kernel_rfl) (by kernel_rfl) ?_
    try simp only [Act.put, List.getElem_toArray, List.getElem_cons_zero, List.getElem_cons_succ, List.setIfInBounds_toArray, List.set_cons_zero, List.set_cons_succ]
    with_reducible refine wpList_v (.bool false) (by kernel_rfl) (by kernel_rfl) ?_
    try simp only [Act.put, List.getElem_toArray, List.getElem_cons_zero, List.getElem_cons_succ, List.setIfInBounds_toArray, List.set_cons_zero, List.set_cons_succ]
    with_reducible refine wpList_skip (by kernel_rfl) ?_
    try simp only [Act.put, List.getElem_toArray, List.getElem_cons_zero, List.getElem_cons_succ, List.setIfInBounds_toArray, List.set_cons_zero, List.set_cons_succ]
    with_reducible refine wpList_skip (by kernel_rfl) ?_
    try simp only [Act.put, List.getElem_toArray, List.getElem_cons_zero, List.getElem_cons_succ, List.setIfInBounds_toArray, List.set_cons_zero, List.set_cons_succ]
    with_reducible refine wpList_skip (by kernel_rfl) ?_
    try simp only [Act.put, List.getElem_toArray, List.getElem_cons_zero, List.getElem_cons_succ, List.setIfInBounds_toArray, List.set_cons_zero, List.set_cons_succ]
    with_reducible refine wpList_skip (by kernel_rfl) ?_
    try simp only [Act.put, List.getElem_toArray, List.getElem_cons_zero, List.getElem_cons_succ, List.setIfInBounds_toArray, List.set_cons_zero, List.set_cons_succ]
    with_reducible refine wpList_v (.bool false) (by kernel_rfl) (by kernel_rfl) ?_
    try simp only [Act.put, List.getElem_toArray, List.getElem_cons_zero, List.getElem_cons_succ, List.setIfInBounds_toArray, List.set_cons_zero, List.set_cons_succ]
    with_reducible refine wpList_v (.bool false) (by kernel_rfl) (by kernel_rfl) ?_
    try simp only [Act.put, List.getElem_toArray, List.getElem_cons_zero, List.getElem_cons_succ, List.setIfInBounds_toArray, List.set_cons_zero, List.set_cons_succ]
    with_reducible refine wpList_skip (by kernel_rfl) ?_
    try simp only [Act.put, List.getElem_toArray, List.getElem_cons_zero, List.getElem_cons_succ, List.setIfInBounds_toArray, List.set_cons_zero, List.set_cons_succ]
    with_reducible refine wpList_skip (by kernel_rfl) ?_
    try simp only [Act.put, List.getElem_toArray, List.getElem_cons_zero, List.getElem_cons_succ, List.setIfInBounds_toArray, List.set_cons_zero, List.set_cons_succ]
    with_reducible refine wpList_skip (by kernel_rfl) ?_
    try simp only [Act.put, List.getElem_toArray, List.getElem_cons_zero, List.getElem_cons_succ, List.setIfInBounds_toArray, List.set_cons_zero, List.set_cons_succ]
    with_reducible refine wpList_skip (by kernel_rfl) ?_
    try simp only [Act.put, List.getElem_toArray, List.getElem_cons_zero, List.getElem_cons_succ, List.setIfInBounds_toArray, List.set_cons_zero, List.set_cons_succ]
    with_reducible refine wpList_skip (by kernel_rfl) ?_
    try simp only [Act.put, List.getElem_toArray, List.getElem_cons_zero, List.getElem_cons_succ, List.setIfInBounds_toArray, List.set_cons_zero, List.set_cons_succ]
    with_reducible refine wpList_v (.bool false) (by kernel_rfl) (by kernel_rfl) ?_
    try simp only [Act.put, List.getElem_toArray, List.getElem_cons_zero, List.getElem_cons_succ, List.setIfInBounds_toArray, List.set_cons_zero, List.set_cons_succ]
    with_reducible refine wpList_v (.bool false) (by kernel_rfl) (by kernel_rfl) ?_
    try simp only [Act.put, List.getElem_toArray, List.getElem_cons_zero, List.getElem_cons_succ, List.setIfInBounds_toArray, List.set_cons_zero, List.set_cons_succ]
    with_reducible refine wpList_skip (by kernel_rfl) ?_
    try simp only [Act.put, List.getElem_toArray, List.getElem_cons_zero, List.getElem_cons_succ, List.setIfInBounds_toArray, List.set_cons_zero, List.set_cons_succ]
    with_reducible refine wpList_skip (by kernel_rfl) ?_
    try simp only [Act.put, List.getElem_toArray, List.getElem_cons_zero, List.getElem_cons_succ, List.setIfInBounds_toArray, List.set_cons_zero, List.set_cons_succ]
    with_reducible refine wpList_skip (by kernel_rfl) ?_
    try simp only [Act.put, List.getElem_toArray, List.getElem_cons_zero, List.getElem_cons_succ, List.setIfInBounds_toArray, List.set_cons_zero, List.set_cons_succ]
    with_reducible refine wpList_skip (by kernel_rfl) ?_
    try simp only [Act.put, List.getElem_toArray, List.getElem_cons_zero, List.getElem_cons_succ, List.setIfInBounds_toArray, List.set_cons_zero, List.set_cons_succ]
    with_reducible refine wpList_v (.bool false) (by kernel_rfl) (by kernel_rfl) ?_
    try simp only [Act.put, List.getElem_toArray, List.getElem_cons_zero, List.getElem_cons_succ, List.setIfInBounds_toArray, List.set_cons_zero, List.set_cons_succ]
    with_reducible refine wpList_v (.bool false) (by kernel_rfl) (by kernel_rfl) ?_
    try simp only [Act.put, List.getElem_toArray, List.getElem_cons_zero, List.getElem_cons_succ, List.setIfInBounds_toArray, List.set_cons_zero, List.set_cons_succ]
    refine wpList_nil ?_
    refine hK3 _ _ ?_
    refine wp_ret ?_
    exact bodyPost_ret (v := .bool false) (by kernel_rfl) rfl ⟨⟨false, rfl, fun h => by cases h⟩, ee⟩
  | true =>
    with_reducible refine wpList_v (.pointer (some ⟨g2, 17, none⟩)) (by kernel_rfl) (by kernel_rfl) ?_
    try simp only [Act.put, List.getElem_toArray, List.getElem_cons_zero, List.getElem_cons_succ, List.setIfInBounds_toArray, List.set_cons_zero, List.set_cons_succ]
    refine wpList_load_g (by kernel_rfl) 30 _ rfl (g2) (17) (by kernel_rfl) (m.t.cells) _ (rowMid Zb1 (17) (partOf 17 (by kernel_rfl))) Tryd.underlying30 rfl sizeTn ?_
    try simp only [Act.put, List.getElem_toArray, List.getElem_cons_zero, List.getElem_cons_succ, List.setIfInBounds_toArray, List.set_cons_zero, List.set_cons_succ]
    refine wpList_fcall 97 #[.agg (m.t.cells).toArray] (rfew8_any m.t.s m.t.q m.t.rs m.t.ws m.t.A1 m.t.c1 m.t.A2 m.t.c2 z2 B0 (Nat.le_trans hB ee.size) (ok.t.below ee hB)) (by kernel_rfl) (by kernel_rfl) ?_
    rintro e z3 ⟨⟨r2, rfl⟩, t⟩
    refine ⟨_, rfl, ?_⟩
    have Zb1 := hpB Zb1 t
    have ee := ee.trans (t.mono ee.size)
    clear t
    try simp only [Act.put, List.getElem_toArray, List.getElem_cons_zero, List.getElem_cons_succ, List.setIfInBounds_toArray, List.set_cons_zero, List.set_cons_succ]
    with_reducible refine wpList_v (.bool r2) (by kernel_rfl) (by kernel_rfl) ?_
    try simp only [Act.put, List.getElem_toArray, List.getElem_cons_zero, List.getElem_cons_succ, List.setIfInBounds_toArray, List.set_cons_zero, List.set_cons_succ]
    with_reducible refine wpList_v (.bool r2) (by kernel_rfl) (by kernel_rfl) ?_
    try simp only [Act.put, List.getElem_toArray, List.getElem_cons_zero, List.getElem_cons_succ, List.setIfInBounds_toArray, List.set_cons_zero, List.set_cons_succ]
    cases r2 with
    | false =>
      with_reducible refine wpList_skip (by kernel_rfl) ?_
      try simp only [Act.put, List.getElem_toArray, List.getElem_cons_zero, List.getElem_cons_succ, List.setIfInBounds_toArray, List.set_cons_zero, List.set_cons_succ]
      with_reducible refine wpList_skip (by kernel_rfl) ?_
      try simp only [Act.put, List.getElem_toArray, List.getElem_cons_zero, List.getElem_cons_succ, List.setIfInBounds_toArray, List.set_cons_zero, List.set_cons_succ]
      with_reducible refine wpList_skip (by kernel_rfl) ?_
      try simp only [Act.put, List.getElem_toArray, List.getElem_cons_zero, List.getElem_cons_succ, List.setIfInBounds_toArray, List.set_cons_zero, List.set_cons_succ]
      with_reducible refine wpList_skip (by kernel_rfl) ?_
      try simp only [Act.put, List.getElem_toArray, List.getElem_cons_zero, List.getElem_cons_succ, List.setIfInBounds_toArray, List.set_cons_zero, List.set_cons_succ]
      with_reducible refine wpList_v (.bool false) (by kernel_rfl) (by kernel_rfl) ?_
      try simp only [Act.put, List.getElem_toArray, List.getElem_cons_zero, List.getElem_cons_succ, List.setIfInBounds_toArray, List.set_cons_zero, List.set_cons_succ]
      with_reducible refine wpList_v (.bool false) (by kernel_rfl) (by kernel_rfl) ?_
      try simp only [Act.put, List.getElem_toArray, List.getElem_cons_zero, List.getElem_cons_succ, List.setIfInBounds_toArray, List.set_cons_zero, List.set_cons_succ]
      with_reducible refine wpList_skip (by kernel_rfl) ?_
      try simp only [Act.put, List.getElem_toArray, List.getElem_cons_zero, List.getElem_cons_succ, List.setIfInBounds_toArray, List.set_cons_zero, List.set_cons_succ]
      with_reducible refine wpList_skip (by kernel_rfl) ?_
      try simp only [Act.put, List.getElem_toArray, List.getElem_cons_zero, List.getElem_cons_succ, List.setIfInBounds_toArray, List.set_cons_zero, List.set_cons_succ]
      with_reducible refine wpList_skip (by kernel_rfl) ?_
      try simp only [Act.put, List.getElem_toArray, List.getElem_cons_zero, List.getElem_cons_succ, List.setIfInBounds_toArray, List.set_cons_zero, List.set_cons_succ]
      with_reducible refine wpList_skip (by kernel_rfl) ?_
      try simp only [Act.put, List.getElem_toArray, List.getElem_cons_zero, List.getElem_cons_succ, List.setIfInBounds_toArray, List.set_cons_zero, List.set_cons_succ]
      with_reducible refine wpList_skip (by kernel_rfl) ?_
      try simp only [Act.put, List.getElem_toArray, List.getElem_cons_zero, List.getElem_cons_succ, List.setIfInBounds_toArray, List.set_cons_zero, List.set_cons_succ]
      with_reducible refine wpList_v (.bool false) (by kernel_rfl) (by kernel_rfl) ?_
      try simp only [Act.put, List.getElem_toArray, List.getElem_cons_zero, List.getElem_cons_succ, List.setIfInBounds_toArray, List.set_cons_zero, List.set_cons_succ]
      with_reducible refine wpList_v (.bool false) (by kernel_rfl) (by kernel_rfl) ?_
      try simp only [Act.put, List.getElem_toArray, List.getElem_cons_zero, List.getElem_cons_succ, List.setIfInBounds_toArray, List.set_cons_zero, List.set_cons_succ]
      with_reducible refine wpList_skip (by kernel_rfl) ?_
      try simp only [Act.put, List.getElem_toArray, List.getElem_cons_zero, List.getElem_cons_succ, List.setIfInBounds_toArray, List.set_cons_zero, List.set_cons_succ]
      with_reducible refine wpList_skip (by kernel_rfl) ?_
      try simp only [Act.put, List.getElem_toArray, List.getElem_cons_zero, List.getElem_cons_succ, List.setIfInBounds_toArray, List.set_cons_zero, List.set_cons_succ]
      with_reducible refine wpList_skip (by kernel_rfl) ?_
      try simp only [Act.put, List.getElem_toArray, List.getElem_cons_zero, List.getElem_cons_succ, List.setIfInBounds_toArray, List.set_cons_zero, List.set_cons_succ]
      with_reducible refine wpList_skip (by kernel_rfl) ?_
      try simp only [Act.put, List.getElem_toArray, List.getElem_cons_zero, List.getElem_cons_succ, List.setIfInBounds_toArray, List.set_cons_zero, List.set_cons_succ]
      with_reducible refine wpList_v (.bool false) (by kernel_rfl) (by kernel_rfl) ?_
      try simp only [Act.put, List.getElem_toArray, List.getElem_cons_zero, List.getElem_cons_succ, List.setIfInBounds_toArray, List.set_cons_zero, List.set_cons_succ]
      with_reducible refine wpList_v (.bool false) (by kernel_rfl) (by kernel_rfl) ?_
      try simp only [Act.put, List.getElem_toArray, List.getElem_cons_zero, List.getElem_cons_succ, List.setIfInBounds_toArray, List.set_cons_zero, List.set_cons_succ]
      refine wpList_nil ?_
      refine hK3 _ _ ?_
      refine wp_ret ?_
      exact bodyPost_ret (v := .bool false) (by kernel_rfl) rfl ⟨⟨false, rfl, fun h => by cases h⟩, ee⟩
    | true =>
      with_reducible refine wpList_v (.pointer (some ⟨g2, 27, none⟩)) (by kernel_rfl) (by kernel_rfl) ?_
      try simp only [Act.put, List.getElem_toArray, List.getElem_cons_zero, List.getElem_cons_succ, List.setIfInBounds_toArray, List.set_cons_zero, List.set_cons_succ]
      refine wpList_load1 (.string m.ky) ⟨g2, 27, none⟩ 9 _ _ (rowCell Zb1 (27) rfl) (by kernel_rfl) rfl (by kernel_rfl) Tryd.underlying9 rfl ?_
      try simp only [Act.put, List.getElem_toArray, List.getElem_cons_zero, List.getElem_cons_succ, List.setIfInBounds_toArray, List.set_cons_zero, List.set_cons_succ]
      with_reducible refine wpList_v (.int .i64 ((m.ky.size : Int))) (by kernel_rfl) (by kernel_rfl) ?_
      try simp only [Act.put, List.getElem_toArray, List.getElem_cons_zero, List.getElem_cons_succ, List.setIfInBounds_toArray, List.set_cons_zero, List.set_cons_succ]
      obtain ⟨b4, hb4⟩ : ∃ d_ : Bool, d_ = (decide ((m.ky.size : Int) ≤ 1000)) := ⟨_, rfl⟩
      with_reducible refine wpList_v (.bool b4) (by kernel_rfl) (run_bin _ _ _ _ _ (.int .i64 ((m.ky.size : Int))) (.int .i64 1000) _ rfl (by kernel_rfl) (by kernel_rfl) (by kernel_rfl) (run_leqI hb4.symm)) ?_
      try simp only [Act.put, List.getElem_toArray, List.getElem_cons_zero, List.getElem_cons_succ, List.setIfInBounds_toArray, List.set_cons_zero, List.set_cons_succ]
      with_reducible refine wpList_v (.bool b4) (by kernel_rfl) (by kernel_rfl) ?_
      try simp only [Act.put, List.getElem_toArray, List.getElem_cons_zero, List.getElem_cons_succ, List.setIfInBounds_toArray, List.set_cons_zero, List.set_cons_succ]
      with_reducible refine wpList_v (.bool b4) (by kernel_rfl) (by kernel_rfl) ?_
      try simp only [Act.put, List.getElem_toArray, List.getElem_cons_zero, List.getElem_cons_succ, List.setIfInBounds_toArray, List.set_cons_zero, List.set_cons_succ]
      cases b4 with
      | false =>
        with_reducible refine wpList_skip (by kernel_rfl) ?_
        try simp only [Act.put, List.getElem_toArray, List.getElem_cons_zero, List.getElem_cons_succ, List.setIfInBounds_toArray, List.set_cons_zero, List.set_cons_succ]
        with_reducible refine wpList_skip (by kernel_rfl) ?_
        try simp only [Act.put, List.getElem_toArray, List.getElem_cons_zero, List.getElem_cons_succ, List.setIfInBounds_toArray, List.set_cons_zero, List.set_cons_succ]
        with_reducible refine wpList_skip (by kernel_rfl) ?_
        try simp only [Act.put, List.getElem_toArray, List.getElem_cons_zero, List.getElem_cons_succ, List.setIfInBounds_toArray, List.set_cons_zero, List.set_cons_succ]
        with_reducible refine wpList_skip (by kernel_rfl) ?_
        try simp only [Act.put, List.getElem_toArray, List.getElem_cons_zero, List.getElem_cons_succ, List.setIfInBounds_toArray, List.set_cons_zero, List.set_cons_succ]
        with_reducible refine wpList_skip (by kernel_rfl) ?_
        try simp only [Act.put, List.getElem_toArray, List.getElem_cons_zero, List.getElem_cons_succ, List.setIfInBounds_toArray, List.set_cons_zero, List.set_cons_succ]
        with_reducible refine wpList_v (.bool false) (by kernel_rfl) (by kernel_rfl) ?_
        try simp only [Act.put, List.getElem_toArray, List.getElem_cons_zero, List.getElem_cons_succ, List.setIfInBounds_toArray, List.set_cons_zero, List.set_cons_succ]
        with_reducible refine wpList_v (.bool false) (by kernel_rfl) (by kernel_rfl) ?_
        try simp only [Act.put, List.getElem_toArray, List.getElem_cons_zero, List.getElem_cons_succ, List.setIfInBounds_toArray, List.set_cons_zero, List.set_cons_succ]
        with_reducible refine wpList_skip (by kernel_rfl) ?_
        try simp only [Act.put, List.getElem_toArray, List.getElem_cons_zero, List.getElem_cons_succ, List.setIfInBounds_toArray, List.set_cons_zero, List.set_cons_succ]
        with_reducible refine wpList_skip (by kernel_rfl) ?_
        try simp only [Act.put, List.getElem_toArray, List.getElem_cons_zero, List.getElem_cons_succ, List.setIfInBounds_toArray, List.set_cons_zero, List.set_cons_succ]
        with_reducible refine wpList_skip (by kernel_rfl) ?_
        try simp only [Act.put, List.getElem_toArray, List.getElem_cons_zero, List.getElem_cons_succ, List.setIfInBounds_toArray, List.set_cons_zero, List.set_cons_succ]
        with_reducible refine wpList_skip (by kernel_rfl) ?_
        try simp only [Act.put, List.getElem_toArray, List.getElem_cons_zero, List.getElem_cons_succ, List.setIfInBounds_toArray, List.set_cons_zero, List.set_cons_succ]
        with_reducible refine wpList_v (.bool false) (by kernel_rfl) (by kernel_rfl) ?_
        try simp only [Act.put, List.getElem_toArray, List.getElem_cons_zero, List.getElem_cons_succ, List.setIfInBounds_toArray, List.set_cons_zero, List.set_cons_succ]
        with_reducible refine wpList_v (.bool false) (by kernel_rfl) (by kernel_rfl) ?_
        try simp only [Act.put, List.getElem_toArray, List.getElem_cons_zero, List.getElem_cons_succ, List.setIfInBounds_toArray, List.set_cons_zero, List.set_cons_succ]
        refine wpList_nil ?_
        refine hK3 _ _ ?_
        refine wp_ret ?_
        exact bodyPost_ret (v := .bool false) (by kernel_rfl) rfl ⟨⟨false, rfl, fun h => by cases h⟩, ee⟩
      | true =>
        with_reducible refine wpList_v (.pointer (some ⟨g2, 29, none⟩)) (by kernel_rfl) (by kernel_rfl) ?_
        try simp only [Act.put, List.getElem_toArray, List.getElem_cons_zero, List.getElem_cons_succ, List.setIfInBounds_toArray, List.set_cons_zero, List.set_cons_succ]
        with_reducible refine wpList_v (.pointer (some ⟨g2, 31, none⟩)) (by kernel_rfl) (by kernel_rfl) ?_
        try simp only [Act.put, List.getElem_toArray, List.getElem_cons_zero, List.getElem_cons_succ, List.setIfInBounds_toArray, List.set_cons_zero, List.set_cons_succ]
        refine wpList_load1 (.string m.vt) ⟨g2, 31, none⟩ 9 _ _ (rowCell Zb1 (31) rfl) (by kernel_rfl) rfl (by kernel_rfl) Tryd.underlying9 rfl ?_
        try simp only [Act.put, List.getElem_toArray, List.getElem_cons_zero, List.getElem_cons_succ, List.setIfInBounds_toArray, List.set_cons_zero, List.set_cons_succ]
        with_reducible refine wpList_v (.int .i64 ((m.vt.size : Int))) (by kernel_rfl) (by kernel_rfl) ?_
        try simp only [Act.put, List.getElem_toArray, List.getElem_cons_zero, List.getElem_cons_succ, List.setIfInBounds_toArray, List.set_cons_zero, List.set_cons_succ]
        obtain ⟨b5, hb5⟩ : ∃ d_ : Bool, d_ = (decide ((m.vt.size : Int) ≤ 1000)) := ⟨_, rfl⟩
        with_reducible refine wpList_v (.bool b5) (by kernel_rfl) (run_bin _ _ _ _ _ (.int .i64 ((m.vt.size : Int))) (.int .i64 1000) _ rfl (by kernel_rfl) (by kernel_rfl) (by kernel_rfl) (run_leqI hb5.symm)) ?_
        try simp only [Act.put, List.getElem_toArray, List.getElem_cons_zero, List.getElem_cons_succ, List.setIfInBounds_toArray, List.set_cons_zero, List.set_cons_succ]
        with_reducible refine wpList_v (.bool b5) (by kernel_rfl) (by kernel_rfl) ?_
        try simp only [Act.put, List.getElem_toArray, List.getElem_cons_zero, List.getElem_cons_succ, List.setIfInBounds_toArray, List.set_cons_zero, List.set_cons_succ]
        with_reducible refine wpList_v (.bool b5) (by kernel_rfl) (by kernel_rfl) ?_
        try simp only [Act.put, List.getElem_toArray, List.getElem_cons_zero, List.getElem_cons_succ, List.setIfInBounds_toArray, List.set_cons_zero, List.set_cons_succ]
        cases b5 with
        | false =>
          with_reducible refine wpList_skip (by kernel_rfl) ?_
          try simp only [Act.put, List.getElem_toArray, List.getElem_cons_zero, List.getElem_cons_succ, List.setIfInBounds_toArray, List.set_cons_zero, List.set_cons_succ]
          with_reducible refine wpList_skip (by kernel_rfl) ?_
          try simp only [Act.put, List.getElem_toArray, List.getElem_cons_zero, List.getElem_cons_succ, List.setIfInBounds_toArray, List.set_cons_zero, List.set_cons_succ]
          with_reducible refine wpList_skip (by kernel_rfl) ?_
          try simp only [Act.put, List.getElem_toArray, List.getElem_cons_zero, List.getElem_cons_succ, List.setIfInBounds_toArray, List.set_cons_zero, List.set_cons_succ]
          with_reducible refine wpList_skip (by kernel_rfl) ?_
          try simp only [Act.put, List.getElem_toArray, List.getElem_cons_zero, List.getElem_cons_succ, List.setIfInBounds_toArray, List.set_cons_zero, List.set_cons_succ]
          with_reducible refine wpList_v (.bool false) (by kernel_rfl) (by kernel_rfl) ?_
          try simp only [Act.put, List.getElem_toArray, List.getElem_cons_zero, List.getElem_cons_succ, List.setIfInBounds_toArray, List.set_cons_zero, List.set_cons_succ]
          with_reducible refine wpList_v (.bool false) (by kernel_rfl) (by kernel_rfl) ?_
          try simp only [Act.put, List.getElem_toArray, List.getElem_cons_zero, List.getElem_cons_succ, List.setIfInBounds_toArray, List.set_cons_zero, List.set_cons_succ]
          refine wpList_nil ?_
          refine hK3 _ _ ?_
          refine wp_ret ?_
          exact bodyPost_ret (v := .bool false) (by kernel_rfl) rfl ⟨⟨false, rfl, fun h => by cases h⟩, ee⟩
        | true =>
          with_reducible refine wpList_v (.pointer (some ⟨g2, 33, none⟩)) (by kernel_rfl) (by kernel_rfl) ?_
          try simp only [Act.put, List.getElem_toArray, List.getElem_cons_zero, List.getElem_cons_succ, List.setIfInBounds_toArray, List.set_cons_zero, List.set_cons_succ]
          refine wpList_load1 (.slice m.D m.dt.length m.dc) ⟨g2, 33, none⟩ 37 _ _ (rowCell Zb1 (33) rfl) (by kernel_rfl) rfl (by kernel_rfl) Tryd.underlying37 rfl ?_
          try simp only [Act.put, List.getElem_toArray, List.getElem_cons_zero, List.getElem_cons_succ, List.setIfInBounds_toArray, List.set_cons_zero, List.set_cons_succ]
          with_reducible refine wpList_v (.int .i64 ((m.dt.length : Int))) (by kernel_rfl) (by kernel_rfl) ?_
          try simp only [Act.put, List.getElem_toArray, List.getElem_cons_zero, List.getElem_cons_succ, List.setIfInBounds_toArray, List.set_cons_zero, List.set_cons_succ]
          obtain ⟨b6, hb6⟩ : ∃ d_ : Bool, d_ = (decide ((m.dt.length : Int) ≤ 70000)) := ⟨_, rfl⟩
          with_reducible refine wpList_v (.bool b6) (by kernel_rfl) (run_bin _ _ _ _ _ (.int .i64 ((m.dt.length : Int))) (.int .i64 70000) _ rfl (by kernel_rfl) (by kernel_rfl) (by kernel_rfl) (run_leqI hb6.symm)) ?_
          try simp only [Act.put, List.getElem_toArray, List.getElem_cons_zero, List.getElem_cons_succ, List.setIfInBounds_toArray, List.set_cons_zero, List.set_cons_succ]
          with_reducible refine wpList_v (.bool b6) (by kernel_rfl) (by kernel_rfl) ?_
          try simp only [Act.put, List.getElem_toArray, List.getElem_cons_zero, List.getElem_cons_succ, List.setIfInBounds_toArray, List.set_cons_zero, List.set_cons_succ]
          with_reducible refine wpList_v (.bool b6) (by kernel_rfl) (by kernel_rfl) ?_
          try simp only [Act.put, List.getElem_toArray, List.getElem_cons_zero, List.getElem_cons_succ, List.setIfInBounds_toArray, List.set_cons_zero, List.set_cons_succ]
          refine wpList_nil ?_
          refine hK3 _ _ ?_
          refine wp_ret ?_
          cases b6 with
          | false =>
            exact bodyPost_ret (v := .bool false) (by kernel_rfl) rfl ⟨⟨false, rfl, fun h => by cases h⟩, ee⟩
          | true =>
            exact bodyPost_ret (v := .bool true) (by kernel_rfl) rfl ⟨⟨true, rfl, fun _ => ⟨by have := of_decide_eq_true hb4.symm; omega, by have := of_decide_eq_true hb5.symm; omega, by have := of_decide_eq_true hb6.symm; omega⟩⟩, ee⟩
set_option maxHeartbeats 25600000 in
theorem few10_any (m : Ms) (w : World) (B0 : Nat) (hB : B0 ≤ w.heap.size) (ok : MsOk w B0 m) :
    Calls Tryd.prog 12 #[.agg m.cells.toArray] w fun e w' => FewIs m.small e ∧ Below w.heap.size w w' := by
  have ee : Below w.heap.size w w := Below.refl _ _
  go_enter Tryd.func12, Tryd.ntmps12
  refine wp_seq_k fun K1 hK1 => ?_
  refine wp_region_lit ?_
  with_reducible refine wpList_w (.pointer (some ⟨w.heap.size, 0, none⟩)) (w.alloc (.cells (m.cells).toArray 39)) (by kernel_rfl) (by kernel_rfl) ?_
  try simp only [Act.put, List.getElem_toArray, List.getElem_cons_zero, List.getElem_cons_succ, List.setIfInBounds_toArray, List.set_cons_zero, List.set_cons_succ]
  have sz_g2 := ee.size
  have sz_ := ee.size
  have ee := ee.alloc ee.size (.cells (m.cells).toArray 39)
  have Zb1 := hpN w (.cells (m.cells).toArray 39) rfl
  generalize w.alloc (.cells (m.cells).toArray 39) = z1 at Zb1 ee ⊢
  obtain ⟨g2, hg_g2⟩ : ∃ g_, g_ = w.heap.size := ⟨_, rfl⟩
  have hB_g2 : w.heap.size ≤ g2 := by rw [hg_g2]; exact sz_g2
  rw [← hg_g2] at Zb1 ⊢
  clear hg_g2
  with_reducible refine wpList_v (.bool false) (by kernel_rfl) (by kernel_rfl) ?_
  try simp only [Act.put, List.getElem_toArray, List.getElem_cons_zero, List.getElem_cons_succ, List.setIfInBounds_toArray, List.set_cons_zero, List.set_cons_succ]
  refine wpList_nil ?_
  refine hK1 _ _ ?_
  refine wp_seq_k fun K3 hK3 => ?_
  refine wp_region_lit ?_
  refine wpList_load_g (by kernel_rfl) 39 _ rfl (g2) (0) (by kernel_rfl) (m.cells) _ (rowAt Zb1) Tryd.underlying39 rfl sizeMs ?_
  try simp only [Act.put, List.getElem_toArray, List.getElem_cons_zero, List.getElem_cons_succ, List.setIfInBounds_toArray, List.set_cons_zero, List.set_cons_succ]
  refine wpList_fcall 15 #[.agg (m.cells).toArray] (mplain_any m z1) (by kernel_rfl) (by kernel_rfl) ?_
  rintro e z2 ⟨rfl, t⟩
  refine ⟨_, rfl, ?_⟩
  have Zb1 := hpB Zb1 t
  have ee := ee.trans (t.mono ee.size)
  clear t
  try simp only [Act.put, List.getElem_toArray, List.getElem_cons_zero, List.getElem_cons_succ, List.setIfInBounds_toArray, List.set_cons_zero, List.set_cons_succ]
  refine wpList_fcall 39 #[.agg (m.cells).toArray] (rfewM_any m z2 B0 (Nat.le_trans hB ee.size) (ok.below ee hB)) (by kernel_rfl) (by kernel_rfl) ?_
  rintro e z3 ⟨⟨r1, rfl, hr1⟩, t⟩
  refine ⟨_, rfl, ?_⟩
  have Zb1 := hpB Zb1 t
  have ee := ee.trans (t.mono ee.size)
  clear t
  try simp only [Act.put, List.getElem_toArray, List.getElem_cons_zero, List.getElem_cons_succ, List.setIfInBounds_toArray, List.set_cons_zero, List.set_cons_succ]
  with_reducible refine wpList_v (.bool r1) (by kernel_rfl) (by kernel_rfl) ?_
  try simp only [Act.put, List.getElem_toArray, List.getElem_cons_zero, List.getElem_cons_succ, List.setIfInBounds_toArray, List.set_cons_zero, List.set_cons_succ]
  refine wpList_nil ?_
  refine hK3 _ _ ?_
  refine wp_ret ?_
  exact bodyPost_ret (v := .bool r1) (by kernel_rfl) rfl ⟨⟨r1, rfl, hr1⟩, ee⟩
def Ms.wake : Ms := { Ms.zero 14 with nu := 7 }
theorem T.Ms.wake_formed : Ms.wake.formed = true := by decide +kernel
theorem formed_wake (w : World) (hT : Tabs w) : Calls Tryd.prog 13 #[.agg Ms.wake.cells.toArray] w fun e w' => e = .returned (.bool true) ∧ Below w.heap.size w w' := by
  have h := mformed_any Ms.wake w 0 (Nat.zero_le _) { zeroOk w 0 14 with } hT
  rw [Ms.wake_formed] at h
  exact h
set_option maxHeartbeats 25600000 in
theorem awake10_any (w : World) (hT : Tabs w) :
    Calls Tryd.prog 11 #[] w fun e w' => e = .returned (.bool true) ∧ Below w.heap.size w w' := by
  have ee : Below w.heap.size w w := Below.refl _ _
  go_enter Tryd.func11, Tryd.ntmps11
  refine wp_seq_k fun K1 hK1 => ?_
  refine wp_region_lit ?_
  with_reducible refine wpList_v (.bool false) (by kernel_rfl) (by kernel_rfl) ?_
  try simp only [Act.put, List.getElem_toArray, List.getElem_cons_zero, List.getElem_cons_succ, List.setIfInBounds_toArray, List.set_cons_zero, List.set_cons_succ]
  refine wpList_nil ?_
  refine hK1 _ _ ?_
  refine wp_seq_k fun K2 hK2 => ?_
  refine wp_region_lit ?_
  with_reducible refine wpList_v (.agg (Ms.wake.cells).toArray) (by kernel_rfl) (by kernel_rfl) ?_
  try simp only [Act.put, List.getElem_toArray, List.getElem_cons_zero, List.getElem_cons_succ, List.setIfInBounds_toArray, List.set_cons_zero, List.set_cons_succ]
  refine wpList_fcall 13 #[.agg (Ms.wake.cells).toArray] (formed_wake w (hT.below ee)) (by kernel_rfl) (by kernel_rfl) ?_
  rintro e z1 ⟨rfl, t⟩
  refine ⟨_, rfl, ?_⟩
  have ee := ee.trans (t.mono ee.size)
  clear t
  try simp only [Act.put, List.getElem_toArray, List.getElem_cons_zero, List.getElem_cons_succ, List.setIfInBounds_toArray, List.set_cons_zero, List.set_cons_succ]
  with_reducible refine wpList_v (.bool true) (by kernel_rfl) (by kernel_rfl) ?_
  try simp only [Act.put, List.getElem_toArray, List.getElem_cons_zero, List.getElem_cons_succ, List.setIfInBounds_toArray, List.set_cons_zero, List.set_cons_succ]
  refine wpList_nil ?_
  refine hK2 _ _ ?_
  refine wp_ret ?_
  exact bodyPost_ret (v := .bool true) (by kernel_rfl) rfl ⟨rfl, ee⟩
end Go.Proofs.YtjofjpmhokjhnaaDoor
