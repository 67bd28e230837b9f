/- The reference's uses. Conditions: what lies, lies below. (Printed by gen_msg.py.) -/
import Derived.Test.YtjofjpmhokjhnaaDoorMbM22
import Derived.Test.YtjofjpmhokjhnaaDoorMbM2
import Derived.Test.YtjofjpmhokjhnaaDoorMbM29
namespace Go.Proofs.YtjofjpmhokjhnaaDoor
set_option maxRecDepth 20000
open Go.RowKit T
set_option linter.unusedSimpArgs false
set_option linter.unusedVariables false

theorem sizeMr : (Tryd.prog.info? 47).map (·.size) = some 34 := by kernel_rfl
set_option maxHeartbeats 25600000 in
theorem mplain_any (m : Ms) (w : World) :
    Calls Tryd.prog 15 #[.agg m.cells.toArray] w fun e w' => e = .returned (.agg m.cells.toArray) ∧ Below w.heap.size w w' := by
  have ee : Below w.heap.size w w := Below.refl _ _
  go_enter Tryd.func15, Tryd.ntmps15
  refine wp_seq_k fun K1 hK1 => ?_
  refine wp_region_lit ?_
  with_reducible refine ww (.pointer (some ⟨w.heap.size, 0, none⟩)) (w.alloc (.cells (m.cells).toArray 39)) ?_
  try simp only [nP, nN, nA, n0, nS]
  have sz_g2 := ee.size
  have sz_ := ee.size
  have ee := ee.alloc ee.size (.cells (m.cells).toArray 39)
  have Zb1 := hpN w (.cells (m.cells).toArray 39) rfl
  generalize w.alloc (.cells (m.cells).toArray 39) = z1 at Zb1 ee ⊢
  obtain ⟨g2, hg_g2⟩ : ∃ g_, g_ = w.heap.size := ⟨_, rfl⟩
  have hB_g2 : w.heap.size ≤ g2 := by rw [hg_g2]; exact sz_g2
  rw [← hg_g2] at Zb1 ⊢
  clear hg_g2
  with_reducible refine ww (.pointer (some ⟨z1.heap.size, 0, none⟩)) (z1.alloc (.cells #[.int .i64 0, .int .u32 0, .int .i64 0, .int .i64 0, .bool false, .int .u32 0, .int .i64 0, .int .i64 0, .int .i64 0, .int .i64 0, .slice none 0 0, .slice none 0 0, .int .i64 0, .int .i64 0, .int .i64 0, .int .u64 0, .bool false, .int .i64 0, .int .i64 0, .slice none 0 0, .slice none 0 0, .int .i64 0, .int .i64 0, .int .i64 0, .int .u64 0, .bool false, .int .i64 0, .string ByteArray.empty, .int .u64 0, .int .i64 0, .int .u64 0, .string ByteArray.empty, .int .i64 0, .slice none 0 0] 47)) ?_
  try simp only [nP, nN, nA, n0, nS]
  have sz_g3 := ee.size
  have lZb1 := (Array.getElem?_eq_some_iff.1 Zb1).1
  have sz_ := ee.size
  have Zb1 := hpA Zb1 (.cells #[.int .i64 0, .int .u32 0, .int .i64 0, .int .i64 0, .bool false, .int .u32 0, .int .i64 0, .int .i64 0, .int .i64 0, .int .i64 0, .slice none 0 0, .slice none 0 0, .int .i64 0, .int .i64 0, .int .i64 0, .int .u64 0, .bool false, .int .i64 0, .int .i64 0, .slice none 0 0, .slice none 0 0, .int .i64 0, .int .i64 0, .int .i64 0, .int .u64 0, .bool false, .int .i64 0, .string ByteArray.empty, .int .u64 0, .int .i64 0, .int .u64 0, .string ByteArray.empty, .int .i64 0, .slice none 0 0] 47)
  have ee := ee.alloc ee.size (.cells #[.int .i64 0, .int .u32 0, .int .i64 0, .int .i64 0, .bool false, .int .u32 0, .int .i64 0, .int .i64 0, .int .i64 0, .int .i64 0, .slice none 0 0, .slice none 0 0, .int .i64 0, .int .i64 0, .int .i64 0, .int .u64 0, .bool false, .int .i64 0, .int .i64 0, .slice none 0 0, .slice none 0 0, .int .i64 0, .int .i64 0, .int .i64 0, .int .u64 0, .bool false, .int .i64 0, .string ByteArray.empty, .int .u64 0, .int .i64 0, .int .u64 0, .string ByteArray.empty, .int .i64 0, .slice none 0 0] 47)
  have Zv2 := hpN z1 (.cells #[.int .i64 0, .int .u32 0, .int .i64 0, .int .i64 0, .bool false, .int .u32 0, .int .i64 0, .int .i64 0, .int .i64 0, .int .i64 0, .slice none 0 0, .slice none 0 0, .int .i64 0, .int .i64 0, .int .i64 0, .int .u64 0, .bool false, .int .i64 0, .int .i64 0, .slice none 0 0, .slice none 0 0, .int .i64 0, .int .i64 0, .int .i64 0, .int .u64 0, .bool false, .int .i64 0, .string ByteArray.empty, .int .u64 0, .int .i64 0, .int .u64 0, .string ByteArray.empty, .int .i64 0, .slice none 0 0] 47) rfl
  generalize z1.alloc (.cells #[.int .i64 0, .int .u32 0, .int .i64 0, .int .i64 0, .bool false, .int .u32 0, .int .i64 0, .int .i64 0, .int .i64 0, .int .i64 0, .slice none 0 0, .slice none 0 0, .int .i64 0, .int .i64 0, .int .i64 0, .int .u64 0, .bool false, .int .i64 0, .int .i64 0, .slice none 0 0, .slice none 0 0, .int .i64 0, .int .i64 0, .int .i64 0, .int .u64 0, .bool false, .int .i64 0, .string ByteArray.empty, .int .u64 0, .int .i64 0, .int .u64 0, .string ByteArray.empty, .int .i64 0, .slice none 0 0] 47) = z2 at Zb1 Zv2 ee ⊢
  obtain ⟨g3, hg_g3⟩ : ∃ g_, g_ = z1.heap.size := ⟨_, rfl⟩
  have n_g3_Zb1 : g2 < g3 := by rw [hg_g3]; exact lZb1
  have hB_g3 : w.heap.size ≤ g3 := by rw [hg_g3]; exact sz_g3
  rw [← hg_g3] at Zv2 ⊢
  clear hg_g3 lZb1
  refine wpList_nil ?_
  refine hK1 _ _ ?_
  refine wp_seq_k fun K4 hK4 => ?_
  refine wp_region_lit ?_
  with_reducible refine wv (.pointer (some ⟨g2, 0, none⟩)) ?_
  try simp only [nP, nN, nA, n0, nS]
  with_reducible refine wl (.int .i64 m.kd) ⟨g2, 0, none⟩ (rowCell Zb1 (0) rfl) Tryd.underlying3 ?_
  try simp only [nP, nN, nA, n0, nS]
  with_reducible refine wv (.pointer (some ⟨g2, 1, none⟩)) ?_
  try simp only [nP, nN, nA, n0, nS]
  with_reducible refine wg (g2) (1) ([.int .u32 (m.br : Int), .int .i64 m.bn]) (rowMid Zb1 (1) (partOf 1 (by kernel_rfl))) Tryd.underlying24 ?_
  try simp only [nP, nN, nA, n0, nS]
  with_reducible refine wv (.pointer (some ⟨g2, 3, none⟩)) ?_
  try simp only [nP, nN, nA, n0, nS]
  with_reducible refine wl (.int .i64 m.sl) ⟨g2, 3, none⟩ (rowCell Zb1 (3) rfl) Tryd.underlying3 ?_
  try simp only [nP, nN, nA, n0, nS]
  with_reducible refine wv (.pointer (some ⟨g2, 4, none⟩)) ?_
  try simp only [nP, nN, nA, n0, nS]
  with_reducible refine wl (.bool m.ha) ⟨g2, 4, none⟩ (rowCell Zb1 (4) rfl) Tryd.underlying4 ?_
  generalize hb5 : m.ha = b5
  try simp only [nP, nN, nA, n0, nS]
  with_reducible refine wv (.pointer (some ⟨g2, 5, none⟩)) ?_
  try simp only [nP, nN, nA, n0, nS]
  with_reducible refine wg (g2) (5) ([.int .u32 (m.vr : Int), .int .i64 m.vn]) (rowMid Zb1 (5) (partOf 5 (by kernel_rfl))) Tryd.underlying24 ?_
  try simp only [nP, nN, nA, n0, nS]
  with_reducible refine wv (.pointer (some ⟨g2, 7, none⟩)) ?_
  try simp only [nP, nN, nA, n0, nS]
  with_reducible refine wg (g2) (7) (m.c.cells) (rowMid Zb1 (7) (partOf 7 (by kernel_rfl))) Tryd.underlying33 ?_
  try simp only [nP, nN, nA, n0, nS]
  with_reducible refine wv (.pointer (some ⟨g2, 17, none⟩)) ?_
  try simp only [nP, nN, nA, n0, nS]
  with_reducible refine wg (g2) (17) (m.t.cells) (rowMid Zb1 (17) (partOf 17 (by kernel_rfl))) Tryd.underlying30 ?_
  try simp only [nP, nN, nA, n0, nS]
  with_reducible refine wv (.pointer (some ⟨g2, 21, none⟩)) ?_
  try simp only [nP, nN, nA, n0, nS]
  with_reducible refine wg (g2) (21) ([.int .i64 m.ii, .int .i64 m.ij]) (rowMid Zb1 (21) (partOf 21 (by kernel_rfl))) Tryd.underlying26 ?_
  try simp only [nP, nN, nA, n0, nS]
  with_reducible refine wv (.pointer (some ⟨g2, 23, none⟩)) ?_
  try simp only [nP, nN, nA, n0, nS]
  with_reducible refine wl (.int .i64 m.g) ⟨g2, 23, none⟩ (rowCell Zb1 (23) rfl) Tryd.underlying3 ?_
  try simp only [nP, nN, nA, n0, nS]
  with_reducible refine wv (.pointer (some ⟨g2, 24, none⟩)) ?_
  try simp only [nP, nN, nA, n0, nS]
  with_reducible refine wl (.int .u64 ((m.st : Int))) ⟨g2, 24, none⟩ (rowCell Zb1 (24) rfl) Tryd.underlying31 ?_
  try simp only [nP, nN, nA, n0, nS]
  with_reducible refine wv (.pointer (some ⟨g2, 25, none⟩)) ?_
  try simp only [nP, nN, nA, n0, nS]
  with_reducible refine wl (.bool m.ye) ⟨g2, 25, none⟩ (rowCell Zb1 (25) rfl) Tryd.underlying4 ?_
  generalize hb6 : m.ye = b6
  try simp only [nP, nN, nA, n0, nS]
  with_reducible refine wv (.pointer (some ⟨g2, 26, none⟩)) ?_
  try simp only [nP, nN, nA, n0, nS]
  with_reducible refine wl (.int .i64 m.nu) ⟨g2, 26, none⟩ (rowCell Zb1 (26) rfl) Tryd.underlying3 ?_
  try simp only [nP, nN, nA, n0, nS]
  with_reducible refine wv (.pointer (some ⟨g2, 27, none⟩)) ?_
  try simp only [nP, nN, nA, n0, nS]
  with_reducible refine wl (.string m.ky) ⟨g2, 27, none⟩ (rowCell Zb1 (27) rfl) Tryd.underlying9 ?_
  try simp only [nP, nN, nA, n0, nS]
  with_reducible refine wv (.pointer (some ⟨g2, 28, none⟩)) ?_
  try simp only [nP, nN, nA, n0, nS]
  with_reducible refine wl (.int .u64 ((m.ve : Int))) ⟨g2, 28, none⟩ (rowCell Zb1 (28) rfl) Tryd.underlying31 ?_
  try simp only [nP, nN, nA, n0, nS]
  with_reducible refine wv (.pointer (some ⟨g2, 29, none⟩)) ?_
  try simp only [nP, nN, nA, n0, nS]
  with_reducible refine wg (g2) (29) ([.int .i64 m.vk, .int .u64 (m.vb : Int), .string m.vt]) (rowMid Zb1 (29) (partOf 29 (by kernel_rfl))) Tryd.underlying35 ?_
  try simp only [nP, nN, nA, n0, nS]
  with_reducible refine wv (.pointer (some ⟨g2, 32, none⟩)) ?_
  try simp only [nP, nN, nA, n0, nS]
  with_reducible refine wl (.int .i64 m.er) ⟨g2, 32, none⟩ (rowCell Zb1 (32) rfl) Tryd.underlying36 ?_
  try simp only [nP, nN, nA, n0, nS]
  with_reducible refine wv (.pointer (some ⟨g2, 33, none⟩)) ?_
  try simp only [nP, nN, nA, n0, nS]
  with_reducible refine wl (.slice m.D m.dt.length m.dc) ⟨g2, 33, none⟩ (rowCell Zb1 (33) rfl) Tryd.underlying37 ?_
  try simp only [nP, nN, nA, n0, nS]
  with_reducible refine wv (.agg (m.cells).toArray) ?_
  try simp only [nP, nN, nA, n0, nS]
  refine wpList_store_row rfl 47 _ _ rfl (g3) (m.cells).toArray rfl rfl 47 _ Zv2 sizeMr (by rfl) (Ms.one _) ?_
  have N_ := setRow_heap z2 (g3) _ (m.cells).toArray _ _ Zv2
  have ee := belowSet (cs := (m.cells).toArray) ee Zv2 (by omega)
  have Zb1 := hpR Zb1 (g' := g3) (by omega) (m.cells).toArray
  clear Zv2
  have Zv2 := N_
  clear N_
  generalize z2.setRow (g3) (m.cells).toArray = z3 at Zb1 Zv2 ee ⊢
  try simp only [nP, nN, nA, n0, nS]
  refine wpList_nil ?_
  refine hK4 _ _ ?_
  refine wp_ret ?_
  exact bodyPost_ret (v := .agg m.cells.toArray) (res_c rfl (by kernel_rfl) Zv2 Tryd.underlying47 rfl sizeMr) rfl ⟨rfl, ee⟩
theorem rfew9 (x : Cm) (w : World) (B : Nat) (hB : B ≤ w.heap.size) (ok : CmOk w B x) : Calls Tryd.prog 96 #[.agg x.cells.toArray] w fun e w' => (∃ r : Bool, e = .returned (.bool r)) ∧ Below w.heap.size w w' := rfew_any x.k x.s x.q x.rs x.ws x.A1 x.c1 x.A2 x.c2 x.i x.j x.g x.st x.y w B hB ok
theorem rfew8 (x : Tn) (w : World) (B : Nat) (hB : B ≤ w.heap.size) (ok : TxOk w B x.rs x.ws x.A1 x.c1 x.A2 x.c2) : Calls Tryd.prog 97 #[.agg x.cells.toArray] w fun e w' => (∃ r : Bool, e = .returned (.bool r)) ∧ Below w.heap.size w w' := rfew8_any x.s x.q x.rs x.ws x.A1 x.c1 x.A2 x.c2 w B hB ok
/-- a message of a size that is looked at -/
def T.Ms.small (m : Ms) : Prop := m.ky.size ≤ 1000 ∧ m.vt.size ≤ 1000 ∧ m.dt.length ≤ 70000
def FewIs (P : Prop) (e : Ending) : Prop := ∃ r : Bool, e = .returned (.bool r) ∧ (r = true → P)
set_option maxHeartbeats 25600000 in
theorem rfewM_any (m : Ms) (w : World) (B0 : Nat) (hB : B0 ≤ w.heap.size) (ok : MsOk w B0 m) :
    Calls Tryd.prog 39 #[.agg m.cells.toArray] w fun e w' => FewIs m.small e ∧ Below w.heap.size w w' := by
  have ee : Below w.heap.size w w := Below.refl _ _
  go_enter Tryd.func39, Tryd.ntmps39
  refine wp_seq_k fun K1 hK1 => ?_
  refine wp_region_lit ?_
  with_reducible refine ww (.pointer (some ⟨w.heap.size, 0, none⟩)) (w.alloc (.cells (m.cells).toArray 47)) ?_
  try simp only [nP, nN, nA, n0, nS]
  have sz_g2 := ee.size
  have sz_ := ee.size
  have ee := ee.alloc ee.size (.cells (m.cells).toArray 47)
  have Zb1 := hpN w (.cells (m.cells).toArray 47) rfl
  generalize w.alloc (.cells (m.cells).toArray 47) = z1 at Zb1 ee ⊢
  obtain ⟨g2, hg_g2⟩ : ∃ g_, g_ = w.heap.size := ⟨_, rfl⟩
  have hB_g2 : w.heap.size ≤ g2 := by rw [hg_g2]; exact sz_g2
  rw [← hg_g2] at Zb1 ⊢
  clear hg_g2
  with_reducible refine wv (.bool false) ?_
  try simp only [nP, nN, nA, n0, nS]
  refine wpList_nil ?_
  refine hK1 _ _ ?_
  refine wp_seq_k fun K3 hK3 => ?_
  refine wp_region_lit ?_
  with_reducible refine wv (.pointer (some ⟨g2, 7, none⟩)) ?_
  try simp only [nP, nN, nA, n0, nS]
  with_reducible refine wg (g2) (7) (m.c.cells) (rowMid Zb1 (7) (partOf 7 (by kernel_rfl))) Tryd.underlying45 ?_
  try simp only [nP, nN, nA, n0, nS]
  with_reducible refine wc 96 #[.agg (m.c.cells).toArray] (rfew9 m.c z1 B0 (Nat.le_trans hB ee.size) (ok.c.below ee hB)) ?_
  rintro e z2 ⟨⟨r1, rfl⟩, t⟩
  refine ⟨_, rfl, ?_⟩
  have Zb1 := hpB Zb1 t
  have ee := ee.trans (t.mono ee.size)
  clear t
  try simp only [nP, nN, nA, n0, nS]
  with_reducible refine wv (.bool r1) ?_
  try simp only [nP, nN, nA, n0, nS]
  cases r1
  · with_reducible refine wk ?_
    try simp only [nP, nN, nA, n0, nS]
    with_reducible refine wk ?_
    try simp only [nP, nN, nA, n0, nS]
    with_reducible refine wk ?_
    try simp only [nP, nN, nA, n0, nS]
    with_reducible refine wv (.bool false) ?_
    try simp only [nP, nN, nA, n0, nS]
    with_reducible refine wv (.bool false) ?_
    try simp only [nP, nN, nA, n0, nS]
    with_reducible refine wk ?_
    try simp only [nP, nN, nA, n0, nS]
    with_reducible refine wk ?_
    try simp only [nP, nN, nA, n0, nS]
    with_reducible refine wk ?_
    try simp only [nP, nN, nA, n0, nS]
    with_reducible refine wk ?_
    try simp only [nP, nN, nA, n0, nS]
    with_reducible refine wv (.bool false) ?_
    try simp only [nP, nN, nA, n0, nS]
    with_reducible refine wv (.bool false) ?_
    try simp only [nP, nN, nA, n0, nS]
    with_reducible refine wk ?_
    try simp only [nP, nN, nA, n0, nS]
    with_reducible refine wk ?_
    try simp only [nP, nN, nA, n0, nS]
    with_reducible refine wk ?_
    try simp only [nP, nN, nA, n0, nS]
    with_reducible refine wk ?_
    try simp only [nP, nN, nA, n0, nS]
    with_reducible refine wk ?_
    try simp only [nP, nN, nA, n0, nS]
    with_reducible refine wv (.bool false) ?_
    try simp only [nP, nN, nA, n0, nS]
    with_reducible refine wv (.bool false) ?_
    try simp only [nP, nN, nA, n0, nS]
    with_reducible refine wk ?_
    try simp only [nP, nN, nA, n0, nS]
    with_reducible refine wk ?_
    try simp only [nP, nN, nA, n0, nS]
    with_reducible refine wk ?_
    try simp only [nP, nN, nA, n0, nS]
    with_reducible refine wk ?_
    try simp only [nP, nN, nA, n0, nS]
    with_reducible refine wv (.bool false) ?_
    try simp only [nP, nN, nA, n0, nS]
    with_reducible refine wv (.bool false) ?_
    try simp only [nP, nN, nA, n0, nS]
    refine wpList_nil ?_
    refine hK3 _ _ ?_
    refine wp_ret ?_
    exact bodyPost_ret (v := .bool false) (by kernel_rfl) rfl ⟨⟨false, rfl, fun h => by cases h⟩, ee⟩
  with_reducible refine wv (.pointer (some ⟨g2, 17, none⟩)) ?_
  try simp only [nP, nN, nA, n0, nS]
  with_reducible refine wg (g2) (17) (m.t.cells) (rowMid Zb1 (17) (partOf 17 (by kernel_rfl))) Tryd.underlying30 ?_
  try simp only [nP, nN, nA, n0, nS]
  with_reducible refine wc 97 #[.agg (m.t.cells).toArray] (rfew8 m.t z2 B0 (Nat.le_trans hB ee.size) (ok.t.below ee hB)) ?_
  rintro e z3 ⟨⟨r2, rfl⟩, t⟩
  refine ⟨_, rfl, ?_⟩
  have Zb1 := hpB Zb1 t
  have ee := ee.trans (t.mono ee.size)
  clear t
  try simp only [nP, nN, nA, n0, nS]
  with_reducible refine wv (.bool r2) ?_
  try simp only [nP, nN, nA, n0, nS]
  with_reducible refine wv (.bool r2) ?_
  try simp only [nP, nN, nA, n0, nS]
  cases r2
  · with_reducible refine wk ?_
    try simp only [nP, nN, nA, n0, nS]
    with_reducible refine wk ?_
    try simp only [nP, nN, nA, n0, nS]
    with_reducible refine wk ?_
    try simp only [nP, nN, nA, n0, nS]
    with_reducible refine wk ?_
    try simp only [nP, nN, nA, n0, nS]
    with_reducible refine wv (.bool false) ?_
    try simp only [nP, nN, nA, n0, nS]
    with_reducible refine wv (.bool false) ?_
    try simp only [nP, nN, nA, n0, nS]
    with_reducible refine wk ?_
    try simp only [nP, nN, nA, n0, nS]
    with_reducible refine wk ?_
    try simp only [nP, nN, nA, n0, nS]
    with_reducible refine wk ?_
    try simp only [nP, nN, nA, n0, nS]
    with_reducible refine wk ?_
    try simp only [nP, nN, nA, n0, nS]
    with_reducible refine wk ?_
    try simp only [nP, nN, nA, n0, nS]
    with_reducible refine wv (.bool false) ?_
    try simp only [nP, nN, nA, n0, nS]
    with_reducible refine wv (.bool false) ?_
    try simp only [nP, nN, nA, n0, nS]
    with_reducible refine wk ?_
    try simp only [nP, nN, nA, n0, nS]
    with_reducible refine wk ?_
    try simp only [nP, nN, nA, n0, nS]
    with_reducible refine wk ?_
    try simp only [nP, nN, nA, n0, nS]
    with_reducible refine wk ?_
    try simp only [nP, nN, nA, n0, nS]
    with_reducible refine wv (.bool false) ?_
    try simp only [nP, nN, nA, n0, nS]
    with_reducible refine wv (.bool false) ?_
    try simp only [nP, nN, nA, n0, nS]
    refine wpList_nil ?_
    refine hK3 _ _ ?_
    refine wp_ret ?_
    exact bodyPost_ret (v := .bool false) (by kernel_rfl) rfl ⟨⟨false, rfl, fun h => by cases h⟩, ee⟩
  with_reducible refine wv (.pointer (some ⟨g2, 27, none⟩)) ?_
  try simp only [nP, nN, nA, n0, nS]
  with_reducible refine wl (.string m.ky) ⟨g2, 27, none⟩ (rowCell Zb1 (27) rfl) Tryd.underlying9 ?_
  try simp only [nP, nN, nA, n0, nS]
  with_reducible refine wv (.int .i64 ((m.ky.size : Int))) ?_
  try simp only [nP, nN, nA, n0, nS]
  obtain ⟨b4, hb4⟩ : ∃ d_ : Bool, (decide ((m.ky.size : Int) ≤ 1000)) = d_ := ⟨_, rfl⟩
  with_reducible refine wb (.bool b4) (.int .i64 ((m.ky.size : Int))) (.int .i64 1000) 3 (run_leqI hb4) ?_
  try simp only [nP, nN, nA, n0, nS]
  with_reducible refine wv (.bool b4) ?_
  try simp only [nP, nN, nA, n0, nS]
  with_reducible refine wv (.bool b4) ?_
  try simp only [nP, nN, nA, n0, nS]
  cases b4
  · have pb4 : ¬ ((m.ky.size : Int) ≤ 1000) := of_decide_eq_false hb4
    with_reducible refine wk ?_
    try simp only [nP, nN, nA, n0, nS]
    with_reducible refine wk ?_
    try simp only [nP, nN, nA, n0, nS]
    with_reducible refine wk ?_
    try simp only [nP, nN, nA, n0, nS]
    with_reducible refine wk ?_
    try simp only [nP, nN, nA, n0, nS]
    with_reducible refine wk ?_
    try simp only [nP, nN, nA, n0, nS]
    with_reducible refine wv (.bool false) ?_
    try simp only [nP, nN, nA, n0, nS]
    with_reducible refine wv (.bool false) ?_
    try simp only [nP, nN, nA, n0, nS]
    with_reducible refine wk ?_
    try simp only [nP, nN, nA, n0, nS]
    with_reducible refine wk ?_
    try simp only [nP, nN, nA, n0, nS]
    with_reducible refine wk ?_
    try simp only [nP, nN, nA, n0, nS]
    with_reducible refine wk ?_
    try simp only [nP, nN, nA, n0, nS]
    with_reducible refine wv (.bool false) ?_
    try simp only [nP, nN, nA, n0, nS]
    with_reducible refine wv (.bool false) ?_
    try simp only [nP, nN, nA, n0, nS]
    refine wpList_nil ?_
    refine hK3 _ _ ?_
    refine wp_ret ?_
    exact bodyPost_ret (v := .bool false) (by kernel_rfl) rfl ⟨⟨false, rfl, fun h => by cases h⟩, ee⟩
  have pb4 : (m.ky.size : Int) ≤ 1000 := of_decide_eq_true hb4
  with_reducible refine wv (.pointer (some ⟨g2, 29, none⟩)) ?_
  try simp only [nP, nN, nA, n0, nS]
  with_reducible refine wv (.pointer (some ⟨g2, 31, none⟩)) ?_
  try simp only [nP, nN, nA, n0, nS]
  with_reducible refine wl (.string m.vt) ⟨g2, 31, none⟩ (rowCell Zb1 (31) rfl) Tryd.underlying9 ?_
  try simp only [nP, nN, nA, n0, nS]
  with_reducible refine wv (.int .i64 ((m.vt.size : Int))) ?_
  try simp only [nP, nN, nA, n0, nS]
  obtain ⟨b5, hb5⟩ : ∃ d_ : Bool, (decide ((m.vt.size : Int) ≤ 1000)) = d_ := ⟨_, rfl⟩
  with_reducible refine wb (.bool b5) (.int .i64 ((m.vt.size : Int))) (.int .i64 1000) 3 (run_leqI hb5) ?_
  try simp only [nP, nN, nA, n0, nS]
  with_reducible refine wv (.bool b5) ?_
  try simp only [nP, nN, nA, n0, nS]
  with_reducible refine wv (.bool b5) ?_
  try simp only [nP, nN, nA, n0, nS]
  cases b5
  · have pb5 : ¬ ((m.vt.size : Int) ≤ 1000) := of_decide_eq_false hb5
    with_reducible refine wk ?_
    try simp only [nP, nN, nA, n0, nS]
    with_reducible refine wk ?_
    try simp only [nP, nN, nA, n0, nS]
    with_reducible refine wk ?_
    try simp only [nP, nN, nA, n0, nS]
    with_reducible refine wk ?_
    try simp only [nP, nN, nA, n0, nS]
    with_reducible refine wv (.bool false) ?_
    try simp only [nP, nN, nA, n0, nS]
    with_reducible refine wv (.bool false) ?_
    try simp only [nP, nN, nA, n0, nS]
    refine wpList_nil ?_
    refine hK3 _ _ ?_
    refine wp_ret ?_
    exact bodyPost_ret (v := .bool false) (by kernel_rfl) rfl ⟨⟨false, rfl, fun h => by cases h⟩, ee⟩
  have pb5 : (m.vt.size : Int) ≤ 1000 := of_decide_eq_true hb5
  with_reducible refine wv (.pointer (some ⟨g2, 33, none⟩)) ?_
  try simp only [nP, nN, nA, n0, nS]
  with_reducible refine wl (.slice m.D m.dt.length m.dc) ⟨g2, 33, none⟩ (rowCell Zb1 (33) rfl) Tryd.underlying37 ?_
  try simp only [nP, nN, nA, n0, nS]
  with_reducible refine wv (.int .i64 ((m.dt.length : Int))) ?_
  try simp only [nP, nN, nA, n0, nS]
  obtain ⟨b6, hb6⟩ : ∃ d_ : Bool, (decide ((m.dt.length : Int) ≤ 70000)) = d_ := ⟨_, rfl⟩
  with_reducible refine wb (.bool b6) (.int .i64 ((m.dt.length : Int))) (.int .i64 70000) 3 (run_leqI hb6) ?_
  try simp only [nP, nN, nA, n0, nS]
  with_reducible refine wv (.bool b6) ?_
  try simp only [nP, nN, nA, n0, nS]
  with_reducible refine wv (.bool b6) ?_
  try simp only [nP, nN, nA, n0, nS]
  refine wpList_nil ?_
  refine hK3 _ _ ?_
  refine wp_ret ?_
  cases b6
  · have pb6 : ¬ ((m.dt.length : Int) ≤ 70000) := of_decide_eq_false hb6
    exact bodyPost_ret (v := .bool false) (by kernel_rfl) rfl ⟨⟨false, rfl, fun h => by cases h⟩, ee⟩
  have pb6 : (m.dt.length : Int) ≤ 70000 := of_decide_eq_true hb6
  exact bodyPost_ret (v := .bool true) (by kernel_rfl) rfl ⟨⟨true, rfl, fun _ => ⟨by have := of_decide_eq_true hb4; omega, by have := of_decide_eq_true hb5; omega, by have := of_decide_eq_true hb6; omega⟩⟩, ee⟩
set_option maxHeartbeats 25600000 in
theorem few10_any (m : Ms) (w : World) (B0 : Nat) (hB : B0 ≤ w.heap.size) (ok : MsOk w B0 m) :
    Calls Tryd.prog 12 #[.agg m.cells.toArray] w fun e w' => FewIs m.small e ∧ Below w.heap.size w w' := by
  have ee : Below w.heap.size w w := Below.refl _ _
  go_enter Tryd.func12, Tryd.ntmps12
  refine wp_seq_k fun K1 hK1 => ?_
  refine wp_region_lit ?_
  with_reducible refine ww (.pointer (some ⟨w.heap.size, 0, none⟩)) (w.alloc (.cells (m.cells).toArray 39)) ?_
  try simp only [nP, nN, nA, n0, nS]
  have sz_g2 := ee.size
  have sz_ := ee.size
  have ee := ee.alloc ee.size (.cells (m.cells).toArray 39)
  have Zb1 := hpN w (.cells (m.cells).toArray 39) rfl
  generalize w.alloc (.cells (m.cells).toArray 39) = z1 at Zb1 ee ⊢
  obtain ⟨g2, hg_g2⟩ : ∃ g_, g_ = w.heap.size := ⟨_, rfl⟩
  have hB_g2 : w.heap.size ≤ g2 := by rw [hg_g2]; exact sz_g2
  rw [← hg_g2] at Zb1 ⊢
  clear hg_g2
  with_reducible refine wv (.bool false) ?_
  try simp only [nP, nN, nA, n0, nS]
  refine wpList_nil ?_
  refine hK1 _ _ ?_
  refine wp_seq_k fun K3 hK3 => ?_
  refine wp_region_lit ?_
  with_reducible refine wg (g2) (0) (m.cells) (rowAt Zb1) Tryd.underlying39 ?_
  try simp only [nP, nN, nA, n0, nS]
  with_reducible refine wc 15 #[.agg (m.cells).toArray] (mplain_any m z1) ?_
  rintro e z2 ⟨rfl, t⟩
  refine ⟨_, rfl, ?_⟩
  have Zb1 := hpB Zb1 t
  have ee := ee.trans (t.mono ee.size)
  clear t
  try simp only [nP, nN, nA, n0, nS]
  with_reducible refine wc 39 #[.agg (m.cells).toArray] (rfewM_any m z2 B0 (Nat.le_trans hB ee.size) (ok.below ee hB)) ?_
  rintro e z3 ⟨⟨r1, rfl, hr1⟩, t⟩
  refine ⟨_, rfl, ?_⟩
  have Zb1 := hpB Zb1 t
  have ee := ee.trans (t.mono ee.size)
  clear t
  try simp only [nP, nN, nA, n0, nS]
  with_reducible refine wv (.bool r1) ?_
  try simp only [nP, nN, nA, n0, nS]
  refine wpList_nil ?_
  refine hK3 _ _ ?_
  refine wp_ret ?_
  exact bodyPost_ret (v := .bool r1) (by kernel_rfl) rfl ⟨⟨r1, rfl, hr1⟩, ee⟩
def Ms.wake : Ms := { Ms.zero 14 with nu := 7 }
theorem T.Ms.wake_formed : Ms.wake.formed = true := by decide +kernel
theorem formed_wake (w : World) (hT : Tabs w) : Calls Tryd.prog 13 #[.agg Ms.wake.cells.toArray] w fun e w' => e = .returned (.bool true) ∧ Below w.heap.size w w' := by
  have h := mformed_any Ms.wake w 0 (Nat.zero_le _) { zeroOk w 0 14 with } hT
  rw [Ms.wake_formed] at h
  exact h
set_option maxHeartbeats 25600000 in
theorem awake10_any (w : World) (hT : Tabs w) :
    Calls Tryd.prog 11 #[] w fun e w' => e = .returned (.bool true) ∧ Below w.heap.size w w' := by
  have ee : Below w.heap.size w w := Below.refl _ _
  go_enter Tryd.func11, Tryd.ntmps11
  refine wp_seq_k fun K1 hK1 => ?_
  refine wp_region_lit ?_
  with_reducible refine wv (.bool false) ?_
  try simp only [nP, nN, nA, n0, nS]
  refine wpList_nil ?_
  refine hK1 _ _ ?_
  refine wp_seq_k fun K2 hK2 => ?_
  refine wp_region_lit ?_
  with_reducible refine wv (.agg (Ms.wake.cells).toArray) ?_
  try simp only [nP, nN, nA, n0, nS]
  with_reducible refine wc 13 #[.agg (Ms.wake.cells).toArray] (formed_wake w (hT.below ee)) ?_
  rintro e z1 ⟨rfl, t⟩
  refine ⟨_, rfl, ?_⟩
  have ee := ee.trans (t.mono ee.size)
  clear t
  try simp only [nP, nN, nA, n0, nS]
  with_reducible refine wv (.bool true) ?_
  try simp only [nP, nN, nA, n0, nS]
  refine wpList_nil ?_
  refine hK2 _ _ ?_
  refine wp_ret ?_
  exact bodyPost_ret (v := .bool true) (by kernel_rfl) rfl ⟨rfl, ee⟩
end Go.Proofs.YtjofjpmhokjhnaaDoor

namespace Go.Proofs.YtjofjpmhokjhnaaDoor
set_option maxRecDepth 20001
open Go.RowKit T
set_option linter.unusedSimpArgs false
set_option linter.unusedVariables false

/-- does a kind use the field 'ballot' -/
def T.uB (k : Int) : Bool := decide (1 ≤ k ∧ k ≤ 5)
/-- does a kind use the field 'slot' -/
def T.uS (k : Int) : Bool := decide (k = 2 ∨ (4 ≤ k ∧ k ≤ 7) ∨ k = 15)
/-- does a kind use the field 'has' -/
def T.uH (k : Int) : Bool := decide (k = 2)
/-- does a kind use the field 'command' -/
def T.uC (k : Int) : Bool := decide (k = 4 ∨ k = 6)
/-- does a kind use the field 'txn' -/
def T.uT (k : Int) : Bool := decide (k = 8)
/-- does a kind use the field 'id' -/
def T.uI (k : Int) : Bool := decide (9 ≤ k ∧ k ≤ 11)
/-- does a kind use the field 'group' -/
def T.uG (k : Int) : Bool := decide ((9 ≤ k ∧ k ≤ 11) ∨ k = 13)
/-- does a kind use the field 'stamp' -/
def T.uP (k : Int) : Bool := decide (k = 9 ∨ (11 ≤ k ∧ k ≤ 13))
/-- does a kind use the field 'yes' -/
def T.uY (k : Int) : Bool := decide (k = 10 ∨ k = 11)
/-- does a kind use the field 'number' -/
def T.uN (k : Int) : Bool := decide (12 ≤ k ∧ k ≤ 14)
/-- does a kind use the field 'key' -/
def T.uK (k : Int) : Bool := decide (k = 12 ∨ k = 13)
/-- does a kind use the field 'value' -/
def T.uV (k : Int) : Bool := decide (k = 13)
/-- does a kind use the field 'data' -/
def T.uD (k : Int) : Bool := decide (k = 15)
end Go.Proofs.YtjofjpmhokjhnaaDoor
