import Derived.Test.YtjofjpmhokjhnaaGreatDoorWfM27
import Derived.Test.YtjofjpmhokjhnaaGreatDoorWfM4
set_option linter.unusedSimpArgs false
set_option linter.unusedVariables false
namespace Go.Proofs.YtjofjpmhokjhnaaGreatDoor
set_option maxRecDepth 20000
open Go.RowKit T
theorem sizeRr : (Tryz.prog.info? 47).map (·.size) = some 15 := by kernel_rfl
theorem exec_ixA {P : Program} {a : Act} {o : Oper} {w : World} (x ix : Operand) {t e : TypeId} {A : Option Addr} {b off len cap : Nat} (sz : Nat) {k : IntKind} {i : Nat} (ho : o.op = .indexAddr t x ix) (hx : a.eval x = .slice A len cap) (hi : a.eval ix = .int k (i : Int))
 (ht : P.underlying t = some (.slice e)) (hA : A = some ⟨b, off, none⟩) (hlt : i < len) (hs : (sizeOf e).run P w = .ok sz w := by kernel_rfl) : (execOp a.eval o).run P w = .ok (.value (.pointer (some ⟨b, off + i * sz, none⟩))) w := by
 subst hA
 exact exec_ix x ix sz ho hx hi ht hlt hs
structure Rng (z : World) (b o : Nat) (cs : List Value) : Prop where
 lt : b < z.heap.size
 rg : z.rangeAt b o cs
theorem rngCell {z : World} {b o : Nat} {cs : List Value} (h : Rng z b o cs) (j : Nat) {v : Value} (hv : cs[j]? = some v) : z.cell? ⟨b, o + j, none⟩ = some v := h.rg j v hv
theorem rngBelow {z z' : World} {b o : Nat} {cs : List Value} (h : Rng z b o cs) (t : Below z.heap.size z z') : Rng z' b o cs :=
 ⟨Nat.lt_of_lt_of_le h.1 t.size, fun j v hv => (t.cell (p := ⟨b, o + j, none⟩) h.lt).trans (h.rg j v hv)⟩
theorem rowPtr {z : World} {B i : Nat} {A : Option Addr} {xs : List Rc} {x : Rc} (h : RowsAt z B A 15 (xs.map Rc.cells)) (hx : xs[i]? = some x) (hB : B ≤ z.heap.size) : ∃ b off, A = some ⟨b, off, none⟩ ∧ Rng z b (off + i * 15) x.cells ∧ b < B := by
 obtain ⟨b, off, hA, hb, hc⟩ := h i x.cells (by rw [List.getElem?_map, hx]; rfl)
 exact ⟨b, off, hA, ⟨Nat.lt_of_lt_of_le hb hB, fun j v hv => hc j v hv⟩, hb⟩
set_option maxHeartbeats 25600000 in
theorem rplain_any (x : Rc) (w : World) :
 Calls Tryz.prog 10 #[.agg x.cells.toArray] w fun e w' => e = .returned (.agg x.cells.toArray) ∧ Below w.heap.size w w' := by
 have ee : Below w.heap.size w w := Below.refl _ _
 go_enter Tryz.func10, Tryz.ntmps10
 refine wp_seq_k fun K1 hK1 => ?_
 refine wp_region_lit ?_
 with_reducible refine ww (.pointer (some ⟨w.heap.size, 0, none⟩)) (w.alloc (.cells (x.cells).toArray 36)) ?_
 try simp only [zP]
 have sz_g2 := ee.size
 have sz_ := ee.size
 have ee := ee.alloc ee.size (.cells (x.cells).toArray 36)
 have Zb1 := hpN w (.cells (x.cells).toArray 36) rfl
 obtain ⟨z1, hz_⟩ : ∃ z_ : World, z_ = w.alloc (.cells (x.cells).toArray 36) := ⟨_, rfl⟩
 rw [← hz_] at Zb1 ee ⊢
 clear hz_
 obtain ⟨g2, hg_g2⟩ : ∃ g_, g_ = w.heap.size := ⟨_, rfl⟩
 have hB_g2 : w.heap.size ≤ g2 := by rw [hg_g2]; exact sz_g2
 rw [← hg_g2] at Zb1 ⊢
 clear hg_g2
 with_reducible refine ww (.pointer (some ⟨z1.heap.size, 0, none⟩)) (z1.alloc (.cells #[.int .i64 0, .int .u32 0, .int .i64 0, .int .i64 0, .int .i64 0, .int .i64 0, .int .i64 0, .slice none 0 0, .slice none 0 0, .int .i64 0, .int .i64 0, .int .i64 0, .int .u64 0, .bool false, .slice none 0 0] 47)) ?_
 try simp only [zP]
 have sz_g3 := ee.size
 have lZb1 := (Array.getElem?_eq_some_iff.1 Zb1).1
 have sz_ := ee.size
 have Zb1 := hpA Zb1 (.cells #[.int .i64 0, .int .u32 0, .int .i64 0, .int .i64 0, .int .i64 0, .int .i64 0, .int .i64 0, .slice none 0 0, .slice none 0 0, .int .i64 0, .int .i64 0, .int .i64 0, .int .u64 0, .bool false, .slice none 0 0] 47)
 have ee := ee.alloc ee.size (.cells #[.int .i64 0, .int .u32 0, .int .i64 0, .int .i64 0, .int .i64 0, .int .i64 0, .int .i64 0, .slice none 0 0, .slice none 0 0, .int .i64 0, .int .i64 0, .int .i64 0, .int .u64 0, .bool false, .slice none 0 0] 47)
 have Zv2 := hpN z1 (.cells #[.int .i64 0, .int .u32 0, .int .i64 0, .int .i64 0, .int .i64 0, .int .i64 0, .int .i64 0, .slice none 0 0, .slice none 0 0, .int .i64 0, .int .i64 0, .int .i64 0, .int .u64 0, .bool false, .slice none 0 0] 47) rfl
 obtain ⟨z2, hz_⟩ : ∃ z_ : World, z_ = z1.alloc (.cells #[.int .i64 0, .int .u32 0, .int .i64 0, .int .i64 0, .int .i64 0, .int .i64 0, .int .i64 0, .slice none 0 0, .slice none 0 0, .int .i64 0, .int .i64 0, .int .i64 0, .int .u64 0, .bool false, .slice none 0 0] 47) := ⟨_, rfl⟩
 rw [← hz_] at Zb1 Zv2 ee ⊢
 clear hz_
 obtain ⟨g3, hg_g3⟩ : ∃ g_, g_ = z1.heap.size := ⟨_, rfl⟩
 have n_g3_Zb1 : g2 < g3 := by rw [hg_g3]; exact lZb1
 have hB_g3 : w.heap.size ≤ g3 := by rw [hg_g3]; exact sz_g3
 rw [← hg_g3] at Zv2 ⊢
 clear hg_g3 lZb1
 refine wpList_nil ?_
 refine hK1 _ _ ?_
 refine wp_seq_k fun K4 hK4 => ?_
 refine wp_region_lit ?_
 with_reducible
  refine wv (.pointer (some ⟨g2, 0, none⟩)) ?_
  refine wl (.int .i64 x.kd) ⟨g2, 0, none⟩ (rowCell Zb1 (0) rfl) Tryz.underlying3 ?_
  refine wv (.pointer (some ⟨g2, 1, none⟩)) ?_
  refine wg (g2) (1) ([.int .u32 (x.br : Int), .int .i64 x.bn]) (rowMid Zb1 (1) (partOf 1 (by kernel_rfl))) Tryz.underlying24 ?_
  refine wv (.pointer (some ⟨g2, 3, none⟩)) ?_
  refine wl (.int .i64 x.sl) ⟨g2, 3, none⟩ (rowCell Zb1 (3) rfl) Tryz.underlying3 ?_
  refine wv (.pointer (some ⟨g2, 4, none⟩)) ?_
  refine wg (g2) (4) (x.c.cells) (rowMid Zb1 (4) (partOf 4 (by kernel_rfl))) Tryz.underlying33 ?_
  refine wv (.pointer (some ⟨g2, 14, none⟩)) ?_
  refine wl (.slice x.D x.dt.length x.dc) ⟨g2, 14, none⟩ (rowCell Zb1 (14) rfl) Tryz.underlying34 ?_
  refine wv (.agg (x.cells).toArray) ?_
 try simp only [zP]
 refine wpList_store_row rfl 47 _ _ rfl (g3) (x.cells).toArray rfl rfl 47 _ Zv2 sizeRr (by rfl) (Rc.one _) ?_
 have N_ := setRow_heap z2 (g3) _ (x.cells).toArray _ _ Zv2
 have ee := belowSet (cs := (x.cells).toArray) ee Zv2 (by omega)
 have Zb1 := hpR Zb1 (g' := g3) (by omega) (x.cells).toArray
 clear Zv2
 have Zv2 := N_
 clear N_
 obtain ⟨z3, hz_⟩ : ∃ z_ : World, z_ = z2.setRow (g3) (x.cells).toArray := ⟨_, rfl⟩
 rw [← hz_] at Zb1 Zv2 ee ⊢
 clear hz_
 try simp only [zP]
 refine wpList_nil ?_
 refine hK4 _ _ ?_
 refine wp_ret ?_
 exact bodyPost_ret (v := .agg x.cells.toArray) (res_c rfl (by kernel_rfl) Zv2 Tryz.underlying47 rfl sizeRr) rfl ⟨rfl, ee⟩
set_option maxHeartbeats 25600000 in
theorem rfewR_any (x : Rc) (w : World) (B0 : Nat) (hB : B0 ≤ w.heap.size) (ok : RcOk w B0 x) :
 Calls Tryz.prog 31 #[.agg x.cells.toArray] w fun e w' => FewIs (x.dt.length ≤ 70000) e ∧ Below w.heap.size w w' := by
 have ee : Below w.heap.size w w := Below.refl _ _
 go_enter Tryz.func31, Tryz.ntmps31
 refine wp_seq_k fun K1 hK1 => ?_
 refine wp_region_lit ?_
 with_reducible refine ww (.pointer (some ⟨w.heap.size, 0, none⟩)) (w.alloc (.cells (x.cells).toArray 47)) ?_
 try simp only [zP]
 have sz_g2 := ee.size
 have sz_ := ee.size
 have ee := ee.alloc ee.size (.cells (x.cells).toArray 47)
 have Zb1 := hpN w (.cells (x.cells).toArray 47) rfl
 obtain ⟨z1, hz_⟩ : ∃ z_ : World, z_ = w.alloc (.cells (x.cells).toArray 47) := ⟨_, rfl⟩
 rw [← hz_] at Zb1 ee ⊢
 clear hz_
 obtain ⟨g2, hg_g2⟩ : ∃ g_, g_ = w.heap.size := ⟨_, rfl⟩
 have hB_g2 : w.heap.size ≤ g2 := by rw [hg_g2]; exact sz_g2
 rw [← hg_g2] at Zb1 ⊢
 clear hg_g2
 with_reducible refine wv (.bool false) ?_
 try simp only [zP]
 refine wpList_nil ?_
 refine hK1 _ _ ?_
 refine wp_seq_k fun K3 hK3 => ?_
 refine wp_region_lit ?_
 with_reducible
  refine wv (.pointer (some ⟨g2, 4, none⟩)) ?_
  refine wg (g2) (4) (x.c.cells) (rowMid Zb1 (4) (partOf 4 (by kernel_rfl))) Tryz.underlying45 ?_
  try simp only [zP]
  refine wc 85 #[.agg (x.c.cells).toArray] (rfew9 x.c z1 B0 (Nat.le_trans hB ee.size) (ok.c.below ee hB)) ?_
 rintro e z2 ⟨⟨r1, rfl⟩, t⟩
 refine ⟨_, rfl, ?_⟩
 have Zb1 := hpB Zb1 t
 have ee := ee.trans (t.mono ee.size)
 clear t
 try simp only [zP]
 with_reducible refine wv (.bool r1) ?_
 try simp only [zP]
 cases r1
 ·with_reducible refine wk ?_
  try simp only [zP]
  iterate 3 (with_reducible refine wk ?_)
  iterate 2 (with_reducible refine wv (.bool false) ?_)
  try simp only [zP]
  refine wpList_nil ?_
  refine hK3 _ _ ?_
  refine wp_ret ?_
  exact bodyPost_ret (v := .bool false) (by kernel_rfl) rfl ⟨⟨false, rfl, fun h => by cases h⟩, ee⟩
 with_reducible
  refine wv (.pointer (some ⟨g2, 14, none⟩)) ?_
  refine wl (.slice x.D x.dt.length x.dc) ⟨g2, 14, none⟩ (rowCell Zb1 (14) rfl) Tryz.underlying34 ?_
  refine wv (.int .i64 ((x.dt.length : Int))) ?_
 try simp only [zP]
 obtain ⟨b4, hb4⟩ : ∃ d_ : Bool, (decide ((x.dt.length : Int) ≤ 70000)) = d_ := ⟨_, rfl⟩
 with_reducible refine wb (.bool b4) (.int .i64 ((x.dt.length : Int))) (.int .i64 70000) 3 (run_leqI hb4) ?_
 iterate 2 (with_reducible refine wv (.bool b4) ?_)
 try simp only [zP]
 refine wpList_nil ?_
 refine hK3 _ _ ?_
 refine wp_ret ?_
 cases b4
 ·have pb4 : ¬ ((x.dt.length : Int) ≤ 70000) := of_decide_eq_false hb4
  exact bodyPost_ret (v := .bool false) (by kernel_rfl) rfl ⟨⟨false, rfl, fun h => by cases h⟩, ee⟩
 have pb4 : (x.dt.length : Int) ≤ 70000 := of_decide_eq_true hb4
 exact bodyPost_ret (v := .bool true) (by kernel_rfl) rfl ⟨⟨true, rfl, fun _ => (by have := of_decide_eq_true hb4; omega)⟩, ee⟩
set_option maxHeartbeats 25600000 in
theorem rrsame_any (a b : Rc) (w : World) (B0 : Nat) (hB : B0 ≤ w.heap.size) (oka : RcOk w B0 a) (okb : RcOk w B0 b) (sa : a.dt.length ≤ 1099511627776) (sb : b.dt.length ≤ 1099511627776) :
 Calls Tryz.prog 16 #[.agg a.cells.toArray, .agg b.cells.toArray] w fun e w' => e = .returned (.bool (T.Rc.same a b)) ∧ Below w.heap.size w w' := by
 have ee : Below w.heap.size w w := Below.refl _ _
 go_enter Tryz.func16, Tryz.ntmps16
 refine wp_seq_k fun K1 hK1 => ?_
 refine wp_region_lit ?_
 with_reducible refine ww (.pointer (some ⟨w.heap.size, 0, none⟩)) (w.alloc (.cells (a.cells).toArray 47)) ?_
 try simp only [zP]
 have sz_g2 := ee.size
 have sz_ := ee.size
 have ee := ee.alloc ee.size (.cells (a.cells).toArray 47)
 have Zb2 := hpN w (.cells (a.cells).toArray 47) rfl
 obtain ⟨z1, hz_⟩ : ∃ z_ : World, z_ = w.alloc (.cells (a.cells).toArray 47) := ⟨_, rfl⟩
 rw [← hz_] at Zb2 ee ⊢
 clear hz_
 obtain ⟨g2, hg_g2⟩ : ∃ g_, g_ = w.heap.size := ⟨_, rfl⟩
 have hB_g2 : w.heap.size ≤ g2 := by rw [hg_g2]; exact sz_g2
 rw [← hg_g2] at Zb2 ⊢
 clear hg_g2
 with_reducible refine ww (.pointer (some ⟨z1.heap.size, 0, none⟩)) (z1.alloc (.cells (b.cells).toArray 47)) ?_
 try simp only [zP]
 have sz_g3 := ee.size
 have lZb2 := (Array.getElem?_eq_some_iff.1 Zb2).1
 have sz_ := ee.size
 have Zb2 := hpA Zb2 (.cells (b.cells).toArray 47)
 have ee := ee.alloc ee.size (.cells (b.cells).toArray 47)
 have Zb3 := hpN z1 (.cells (b.cells).toArray 47) rfl
 obtain ⟨z2, hz_⟩ : ∃ z_ : World, z_ = z1.alloc (.cells (b.cells).toArray 47) := ⟨_, rfl⟩
 rw [← hz_] at Zb2 Zb3 ee ⊢
 clear hz_
 obtain ⟨g3, hg_g3⟩ : ∃ g_, g_ = z1.heap.size := ⟨_, rfl⟩
 have n_g3_Zb2 : g2 < g3 := by rw [hg_g3]; exact lZb2
 have hB_g3 : w.heap.size ≤ g3 := by rw [hg_g3]; exact sz_g3
 rw [← hg_g3] at Zb3 ⊢
 clear hg_g3 lZb2
 with_reducible refine wv (.bool false) ?_
 try simp only [zP]
 refine wpList_nil ?_
 refine hK1 _ _ ?_
 refine wp_seq_k fun K4 hK4 => ?_
 have hjK4 : ∀ (u5 u6 u7 u8 u9 u10 u11 u12 u13 u14 u15 u16 u17 u18 u19 u20 u21 u22 u23 u24 u25 u26 u27 u28 u29 u30 u31 u32 u33 u34 u35 u36 u37 : Value) (b6 : Bool) (zc4 : World), zc4.heap[g2]? = some (.cells (a.cells).toArray 47 (0, 0)) → zc4.heap[g3]? = some (.cells (b.cells).toArray 47 (0, 0)) → Below w.heap.size w zc4 → ((((decide (a.kd = b.kd) && decide (a.br = b.br ∧ a.bn = b.bn)) && decide (a.sl = b.sl)) && SameC a.c b.c) && decide (a.dt = b.dt)) = b6 → K4 ⟨#[.agg (a.cells).toArray, .agg (b.cells).toArray, .pointer (some ⟨g2, 0, none⟩), .pointer (some ⟨g3, 0, none⟩), .bool b6, u5, u6, u7, u8, u9, u10, u11, u12, u13, u14, u15, u16, u17, u18, u19, u20, u21, u22, u23, u24, u25, u26, u27, u28, u29, u30, u31, u32, u33, u34, u35, u36, u37], []⟩ zc4 := by
  clear Zb2 Zb3 ee
  intro u5 u6 u7 u8 u9 u10 u11 u12 u13 u14 u15 u16 u17 u18 u19 u20 u21 u22 u23 u24 u25 u26 u27 u28 u29 u30 u31 u32 u33 u34 u35 u36 u37 b6 zc4 Zb2 Zb3 ee hb6
  refine hK4 _ _ ?_
  refine wp_ret ?_
  cases b6
  ·exact bodyPost_ret (v := .bool false) (by kernel_rfl) rfl ⟨congrArg (fun b => Ending.returned (.bool b)) (show false = T.Rc.same a b from by unfold T.Rc.same; first | (simp only [hb6]; done) | (simp only [hb6]; rfl) | simp [hb6]), ee⟩
  exact bodyPost_ret (v := .bool true) (by kernel_rfl) rfl ⟨congrArg (fun b => Ending.returned (.bool b)) (show true = T.Rc.same a b from by unfold T.Rc.same; first | (simp only [hb6]; done) | (simp only [hb6]; rfl) | simp [hb6]), ee⟩
 refine wp_region_lit ?_
 with_reducible
  refine wv (.pointer (some ⟨g2, 0, none⟩)) ?_
  refine wl (.int .i64 a.kd) ⟨g2, 0, none⟩ (rowCell Zb2 (0) rfl) Tryz.underlying3 ?_
  refine wv (.pointer (some ⟨g3, 0, none⟩)) ?_
  refine wl (.int .i64 b.kd) ⟨g3, 0, none⟩ (rowCell Zb3 (0) rfl) Tryz.underlying3 ?_
 try simp only [zP]
 obtain ⟨b7, hb7⟩ : ∃ d_ : Bool, (decide (a.kd = b.kd)) = d_ := ⟨_, rfl⟩
 with_reducible
  refine wb (.bool b7) (.int .i64 a.kd) (.int .i64 b.kd) 3 (run_eqlI hb7) ?_
  refine wv (.bool b7) ?_
 try simp only [zP]
 cases b7
 ·have pb7 : ¬ (a.kd = b.kd) := of_decide_eq_false hb7
  with_reducible
   iterate 4 ((refine wk ?_);(refine wk ?_);(refine wk ?_);(refine wk ?_);(refine wk ?_);(refine wv (.bool false) ?_);(refine wv (.bool false) ?_))
  try simp only [zP]
  refine wpList_nil ?_
  exact hjK4 _ _ _ _ _ _ _ _ _ _ _ _ _ _ _ _ _ _ _ _ _ _ _ _ _ _ _ _ _ _ _ _ _ false _ Zb2 Zb3 ee (by first | (simp only [hb7]; done) | (simp only [hb7]; rfl) | simp [hb7])
 have pb7 : a.kd = b.kd := of_decide_eq_true hb7
 with_reducible
  refine wv (.pointer (some ⟨g2, 1, none⟩)) ?_
  refine wg (g2) (1) ([.int .u32 (a.br : Int), .int .i64 a.bn]) (rowMid Zb2 (1) (partOf 1 (by kernel_rfl))) Tryz.underlying44 ?_
  refine wv (.pointer (some ⟨g3, 1, none⟩)) ?_
  refine wg (g3) (1) ([.int .u32 (b.br : Int), .int .i64 b.bn]) (rowMid Zb3 (1) (partOf 1 (by kernel_rfl))) Tryz.underlying44 ?_
 try simp only [zP]
 obtain ⟨b8, hb8⟩ : ∃ d_ : Bool, (decide (a.br = b.br ∧ a.bn = b.bn)) = d_ := ⟨_, rfl⟩
 with_reducible refine wb (.bool b8) (.agg ([.int .u32 (a.br : Int), .int .i64 a.bn]).toArray) (.agg ([.int .u32 (b.br : Int), .int .i64 b.bn]).toArray) 44 (run_E (by have := B.run_eqRBal a.br a.bn b.br b.bn z2; rw [hb8] at this; exact this)) ?_
 iterate 2 (with_reducible refine wv (.bool b8) ?_)
 try simp only [zP]
 cases b8
 ·with_reducible refine wk ?_
  try simp only [zP]
  with_reducible
   iterate 2 ((refine wk ?_);(refine wk ?_);(refine wk ?_);(refine wk ?_);(refine wv (.bool false) ?_);(refine wv (.bool false) ?_);(refine wk ?_))
  iterate 4 (with_reducible refine wk ?_)
  iterate 2 (with_reducible refine wv (.bool false) ?_)
  try simp only [zP]
  refine wpList_nil ?_
  exact hjK4 _ _ _ _ _ _ _ _ _ _ _ _ _ _ _ _ _ _ _ _ _ _ _ _ _ _ _ _ _ _ _ _ _ false _ Zb2 Zb3 ee (by first | (simp only [hb7, hb8]; done) | (simp only [hb7, hb8]; rfl) | simp [hb7, hb8])
 with_reducible
  refine wv (.pointer (some ⟨g2, 3, none⟩)) ?_
  refine wl (.int .i64 a.sl) ⟨g2, 3, none⟩ (rowCell Zb2 (3) rfl) Tryz.underlying3 ?_
  refine wv (.pointer (some ⟨g3, 3, none⟩)) ?_
  refine wl (.int .i64 b.sl) ⟨g3, 3, none⟩ (rowCell Zb3 (3) rfl) Tryz.underlying3 ?_
 try simp only [zP]
 obtain ⟨b9, hb9⟩ : ∃ d_ : Bool, (decide (a.sl = b.sl)) = d_ := ⟨_, rfl⟩
 with_reducible refine wb (.bool b9) (.int .i64 a.sl) (.int .i64 b.sl) 3 (run_eqlI hb9) ?_
 iterate 2 (with_reducible refine wv (.bool b9) ?_)
 try simp only [zP]
 cases b9
 ·have pb9 : ¬ (a.sl = b.sl) := of_decide_eq_false hb9
  with_reducible
   iterate 2 ((refine wk ?_);(refine wk ?_);(refine wk ?_);(refine wk ?_);(refine wk ?_);(refine wv (.bool false) ?_);(refine wv (.bool false) ?_))
  try simp only [zP]
  refine wpList_nil ?_
  exact hjK4 _ _ _ _ _ _ _ _ _ _ _ _ _ _ _ _ _ _ _ _ _ _ _ _ _ _ _ _ _ _ _ _ _ false _ Zb2 Zb3 ee (by first | (simp only [hb7, hb8, hb9]; done) | (simp only [hb7, hb8, hb9]; rfl) | simp [hb7, hb8, hb9])
 have pb9 : a.sl = b.sl := of_decide_eq_true hb9
 with_reducible
  refine wv (.pointer (some ⟨g2, 4, none⟩)) ?_
  refine wg (g2) (4) (a.c.cells) (rowMid Zb2 (4) (partOf 4 (by kernel_rfl))) Tryz.underlying45 ?_
  refine wv (.pointer (some ⟨g3, 4, none⟩)) ?_
  refine wg (g3) (4) (b.c.cells) (rowMid Zb3 (4) (partOf 4 (by kernel_rfl))) Tryz.underlying45 ?_
  try simp only [zP]
  refine wc 49 #[.agg (a.c.cells).toArray, .agg (b.c.cells).toArray] (rcs a.c b.c z2 B0 (Nat.le_trans hB ee.size) (oka.c.below ee hB) (okb.c.below ee hB)) ?_
 rintro e z3 ⟨rfl, t⟩
 refine ⟨_, rfl, ?_⟩
 have Zb2 := hpB Zb2 t
 have Zb3 := hpB Zb3 t
 have ee := ee.trans (t.mono ee.size)
 clear t
 generalize hb10 : SameC a.c b.c = b10
 try simp only [zP]
 iterate 2 (with_reducible refine wv (.bool b10) ?_)
 try simp only [zP]
 cases b10
 ·with_reducible refine wk ?_
  try simp only [zP]
  iterate 4 (with_reducible refine wk ?_)
  iterate 2 (with_reducible refine wv (.bool false) ?_)
  try simp only [zP]
  refine wpList_nil ?_
  exact hjK4 _ _ _ _ _ _ _ _ _ _ _ _ _ _ _ _ _ _ _ _ _ _ _ _ _ _ _ _ _ _ _ _ _ false _ Zb2 Zb3 ee (by first | (simp only [hb7, hb8, hb9, hb10]; done) | (simp only [hb7, hb8, hb9, hb10]; rfl) | simp [hb7, hb8, hb9, hb10])
 with_reducible
  refine wv (.pointer (some ⟨g2, 14, none⟩)) ?_
  refine wl (.slice a.D a.dt.length a.dc) ⟨g2, 14, none⟩ (rowCell Zb2 (14) rfl) Tryz.underlying34 ?_
  refine wv (.pointer (some ⟨g3, 14, none⟩)) ?_
  refine wl (.slice b.D b.dt.length b.dc) ⟨g3, 14, none⟩ (rowCell Zb3 (14) rfl) Tryz.underlying34 ?_
  try simp only [zP]
  refine wc 17 #[.slice a.D a.dt.length a.dc, .slice b.D b.dt.length b.dc] (samed_any a.D b.D a.dc b.dc a.dt b.dt z3 B0 B0 sa sb (oka.below ee hB).d (okb.below ee hB).d oka.dl okb.dl) ?_
 rintro e z4 ⟨rfl, t⟩
 refine ⟨_, rfl, ?_⟩
 have Zb2 := hpB Zb2 t
 have Zb3 := hpB Zb3 t
 have ee := ee.trans (t.mono ee.size)
 clear t
 generalize hb11 : decide (a.dt = b.dt) = b11
 try simp only [zP]
 iterate 2 (with_reducible refine wv (.bool b11) ?_)
 try simp only [zP]
 refine wpList_nil ?_
 exact hjK4 _ _ _ _ _ _ _ _ _ _ _ _ _ _ _ _ _ _ _ _ _ _ _ _ _ _ _ _ _ _ _ _ _ b11 _ Zb2 Zb3 ee (by first | (simp only [hb7, hb8, hb9, hb10, hb11]; done) | (simp only [hb7, hb8, hb9, hb10, hb11]; rfl) | simp [hb7, hb8, hb9, hb10, hb11])
theorem sameR {a b : Rc} (h : LikeR a b) : T.Rc.same a b = true := by
 unfold T.Rc.same
 simp only [Bool.and_eq_true, decide_eq_true_eq]
 exact ⟨⟨⟨⟨h.kd, h.br, h.bn⟩, h.sl⟩, h.c⟩, h.dt⟩
theorem rrsame_t (a b : Rc) (w : World) (B0 : Nat) (hB : B0 ≤ w.heap.size) (oka : RcOk w B0 a) (okb : RcOk w B0 b) (sb : b.dt.length ≤ 1099511627776) (h : LikeR a b) : Calls Tryz.prog 16 #[.agg a.cells.toArray, .agg b.cells.toArray] w fun e w' => e = .returned (.bool true) ∧ Below w.heap.size w w' := by
 have q := rrsame_any a b w B0 hB oka okb (by rw [h.dt]; exact sb) sb
 rw [sameR h] at q
 exact q
def dsum (xs : List Rc) : Nat := (xs.map fun x => x.dt.length).sum
theorem dsum_snoc (xs : List Rc) (x : Rc) : dsum (xs ++ [x]) = dsum xs + x.dt.length := by unfold dsum; simp
theorem dsum_take {xs : List Rc} {k : Nat} {x : Rc} (h : xs[k]? = some x) : dsum (xs.take (k + 1)) = dsum (xs.take k) + x.dt.length := by
 obtain ⟨hk, e⟩ := List.getElem?_eq_some_iff.1 h
 rw [List.take_succ_eq_append_getElem hk, dsum_snoc, e]
set_option maxHeartbeats 25600000 in
theorem few13_any (A : Option Addr) (c : Nat) (xs : List Rc) (m : Int) (w : World) (hm : m ≤ 100) (hc : xs.length ≤ c) (hcm : c ≤ maxLen) (hR : RowsAt w w.heap.size A 15 (xs.map Rc.cells)) (hO : ∀ x ∈ xs, RcOk w w.heap.size x) :
 Calls Tryz.prog 7 #[.slice A xs.length c, .int .i64 m] w fun e w' => FewIs ((xs.length : Int) ≤ m ∧ dsum xs ≤ 200000) e ∧ Below w.heap.size w w' := by
 unfold maxLen at hcm
 have ee : Below w.heap.size w w := Below.refl _ _
 go_enter Tryz.func7, Tryz.ntmps7
 refine wp_seq_k fun K1 hK1 => ?_
 refine wp_region_lit ?_
 with_reducible refine wv (.bool false) ?_
 try simp only [zP]
 refine wpList_nil ?_
 refine hK1 _ _ ?_
 refine wp_seq_k fun K2 hK2 => ?_
 refine wp_region_lit ?_
 with_reducible refine wv (.int .i64 0) ?_
 try simp only [zP]
 refine wpList_nil ?_
 refine hK2 _ _ ?_
 refine wp_seq_k fun K3 hK3 => ?_
 refine wp_seq_k fun K4 hK4 => ?_
 refine wp_region_lit ?_
 with_reducible refine wv (.int .i64 0) ?_
 try simp only [zP]
 refine wpList_nil ?_
 refine hK4 _ _ ?_
 refine wp_block ?_
 with_reducible refine wp_loop_su (xs.length) (fun k u_ alzl4 zl4 => ∃ (n : Nat), alzl4 = ⟨#[.slice A xs.length c, .int .i64 m, undef, undef, u_ 4, .int .i64 ((n : Int)), .int .i64 (((k : Nat) : Int)), u_ 7, u_ 8, u_ 9, u_ 10, u_ 11, u_ 12, u_ 13, u_ 14, u_ 15, u_ 16, u_ 17, u_ 18, u_ 19, u_ 20, u_ 21, u_ 22, u_ 23, u_ 24, u_ 25, u_ 26, u_ 27, u_ 28, u_ 29, u_ 30, u_ 31, u_ 32, u_ 33, undef, undef, undef, undef], []⟩ ∧ Hid (Below w.heap.size w zl4) ∧ Hid (n = dsum (xs.take (k)) ∧ n ≤ 200000) ∧ Hid (k ≤ 100 ∧ k ≤ xs.length)) 0 (Nat.zero_le _) ?_ ?_
 ·exact ⟨0, by kernel_rfl, ee, ⟨rfl, Nat.zero_le _⟩, ⟨Nat.zero_le _, Nat.zero_le _⟩⟩
 clear ee
 intro k u_ alzl4 zl4 hkzl4 hszl4
 obtain ⟨n, rfl, ee, hn, hk1⟩ := hszl4
 have ee := ee.out
 have hn := hn.out
 have hk1 := hk1.out
 refine wp_seq_k fun K6 hK6 => ?_
 refine wp_seq_k fun K7 hK7 => ?_
 refine wp_region_lit ?_
 with_reducible
  refine wv (.int .i64 ((k : Int))) ?_
  refine wv (.slice A xs.length c) ?_
  refine wv (.int .i64 ((xs.length : Int))) ?_
 try simp only [zP]
 obtain ⟨b8, hb8⟩ : ∃ d_ : Bool, (decide ((k : Int) < (xs.length : Int))) = d_ := ⟨_, rfl⟩
 with_reducible
  refine wb (.bool b8) (.int .i64 ((k : Int))) (.int .i64 ((xs.length : Int))) 3 (run_lssI hb8) ?_
  refine wv (.bool b8) ?_
 try simp only [zP]
 cases b8
 ·have pb8 : ¬ ((k : Int) < (xs.length : Int)) := of_decide_eq_false hb8
  iterate 2 (with_reducible refine wk ?_)
  with_reducible refine wv (.bool false) ?_
  try simp only [zP]
  refine wpList_nil ?_
  refine hK7 _ _ ?_
  refine wp_cond_false (by kernel_rfl) ?_
  refine wp_exit ?_
  iterate 2 (refine then_exit ?_)
  refine inBlock_here ?_
  refine hK3 _ _ ?_
  refine wp_seq_k fun K9 hK9 => ?_
  refine wp_region_lit ?_
  with_reducible
   refine wv (.slice A xs.length c) ?_
   refine wv (.int .i64 ((xs.length : Int))) ?_
   refine wv (.int .i64 m) ?_
  try simp only [zP]
  obtain ⟨b10, hb10⟩ : ∃ d_ : Bool, (decide ((xs.length : Int) ≤ m)) = d_ := ⟨_, rfl⟩
  with_reducible
   refine wb (.bool b10) (.int .i64 ((xs.length : Int))) (.int .i64 m) 3 (run_leqI hb10) ?_
   refine wv (.bool b10) ?_
  try simp only [zP]
  refine wpList_nil ?_
  refine hK9 _ _ ?_
  refine wp_ret ?_
  cases b10
  ·have pb10 : ¬ ((xs.length : Int) ≤ m) := of_decide_eq_false hb10
   exact bodyPost_ret (v := .bool false) (by kernel_rfl) rfl ⟨⟨false, rfl, fun h => by cases h⟩, ee⟩
  have pb10 : (xs.length : Int) ≤ m := of_decide_eq_true hb10
  have hkx : k = xs.length := by omega
  exact bodyPost_ret (v := .bool true) (by kernel_rfl) rfl ⟨⟨true, rfl, fun _ => ⟨by omega, by have h_ := hn; rw [hkx, List.take_length] at h_; omega⟩⟩, ee⟩
 have pb8 : (k : Int) < (xs.length : Int) := of_decide_eq_true hb8
 with_reducible refine wv (.int .i64 ((k : Int))) ?_
 try simp only [zP]
 obtain ⟨b11, hb11⟩ : ∃ d_ : Bool, (decide ((k : Int) < 100)) = d_ := ⟨_, rfl⟩
 with_reducible
  refine wb (.bool b11) (.int .i64 ((k : Int))) (.int .i64 100) 3 (run_lssI hb11) ?_
  refine wv (.bool b11) ?_
 try simp only [zP]
 refine wpList_nil ?_
 refine hK7 _ _ ?_
 cases b11
 ·have pb11 : ¬ ((k : Int) < 100) := of_decide_eq_false hb11
  refine wp_cond_false (by kernel_rfl) ?_
  refine wp_exit ?_
  iterate 2 (refine then_exit ?_)
  refine inBlock_here ?_
  refine hK3 _ _ ?_
  refine wp_seq_k fun K12 hK12 => ?_
  refine wp_region_lit ?_
  with_reducible
   refine wv (.slice A xs.length c) ?_
   refine wv (.int .i64 ((xs.length : Int))) ?_
   refine wv (.int .i64 m) ?_
  try simp only [zP]
  obtain ⟨b13, hb13⟩ : ∃ d_ : Bool, (decide ((xs.length : Int) ≤ m)) = d_ := ⟨_, rfl⟩
  with_reducible
   refine wb (.bool b13) (.int .i64 ((xs.length : Int))) (.int .i64 m) 3 (run_leqI hb13) ?_
   refine wv (.bool b13) ?_
  try simp only [zP]
  refine wpList_nil ?_
  refine hK12 _ _ ?_
  refine wp_ret ?_
  cases b13
  ·have pb13 : ¬ ((xs.length : Int) ≤ m) := of_decide_eq_false hb13
   exact bodyPost_ret (v := .bool false) (by kernel_rfl) rfl ⟨⟨false, rfl, fun h => by cases h⟩, ee⟩
  have pb13 : (xs.length : Int) ≤ m := of_decide_eq_true hb13
  have hkx : k = xs.length := by omega
  exact bodyPost_ret (v := .bool true) (by kernel_rfl) rfl ⟨⟨true, rfl, fun _ => ⟨by omega, by have h_ := hn; rw [hkx, List.take_length] at h_; omega⟩⟩, ee⟩
 have pb11 : (k : Int) < 100 := of_decide_eq_true hb11
 refine wp_cond_true (by kernel_rfl) ?_
 refine wp_skip ?_
 refine hK6 _ _ ?_
 refine wp_seq_k fun K14 hK14 => ?_
 refine wp_block ?_
 refine wp_seq_k fun K15 hK15 => ?_
 have hkl : k < xs.length := by omega
 obtain ⟨x, hx⟩ : ∃ q, xs[k]? = some q := ⟨_, List.getElem?_eq_getElem hkl⟩
 obtain ⟨bx, ox, hAx, hrx, hbd_x⟩ := rowPtr (hR.below ee (Nat.le_refl _) : RowsAt zl4 w.heap.size A 15 (xs.map Rc.cells)) hx ee.size
 have okx := (fun x_ hx_ => (hO x_ hx_).below ee (Nat.le_refl _) : ∀ x_ ∈ xs, RcOk zl4 w.heap.size x_) x (List.mem_of_getElem? hx)
 refine wp_seq_k fun K16 hK16 => ?_
 refine wp_region_lit ?_
 with_reducible
  refine wv (.slice A xs.length c) ?_
  refine wv (.int .i64 ((k : Int))) ?_
  try simp only [zP]
  refine wq (.pointer (some ⟨bx, ox + k * 15, none⟩)) (exec_ixA (.tmp 17) (.tmp 18) (A := A) (b := bx) (off := ox) (len := xs.length) (cap := c) (i := k) 15 rfl rfl rfl Tryz.underlying39 hAx hkl) ?_
  refine wg (bx) (ox + k * 15) (x.cells) hrx.rg Tryz.underlying36 ?_
  try simp only [zP]
  refine wc 10 #[.agg (x.cells).toArray] (rplain_any x zl4) ?_
 rintro e z1 ⟨rfl, t⟩
 refine ⟨_, rfl, ?_⟩
 have hrx := rngBelow hrx t
 have ee := ee.trans (t.mono ee.size)
 clear t
 try simp only [zP]
 with_reducible refine wc 31 #[.agg (x.cells).toArray] (rfewR_any x z1 w.heap.size ee.size ((hO x (List.mem_of_getElem? hx)).below ee (Nat.le_refl _))) ?_
 rintro e z2 ⟨⟨r1, rfl, hr1⟩, t⟩
 refine ⟨_, rfl, ?_⟩
 have hrx := rngBelow hrx t
 have ee := ee.trans (t.mono ee.size)
 clear t
 try simp only [zP]
 cases r1
 ·with_reducible refine wv (.bool true) ?_
  try simp only [zP]
  refine wpList_nil ?_
  refine hK16 _ _ ?_
  refine wp_cond_true (by kernel_rfl) ?_
  refine wp_seq_k fun K17 hK17 => ?_
  refine wp_region_lit ?_
  with_reducible refine wv (.bool false) ?_
  try simp only [zP]
  refine wpList_nil ?_
  refine hK17 _ _ ?_
  refine wp_ret ?_
  iterate 2 ((refine then_ret ?_);(refine inBlock_ret ?_);(refine then_ret ?_))
  exact bodyPost_ret (v := .bool false) (by kernel_rfl) rfl ⟨⟨false, rfl, fun h => by cases h⟩, ee⟩
 with_reducible refine wv (.bool false) ?_
 try simp only [zP]
 refine wpList_nil ?_
 refine hK16 _ _ ?_
 refine wp_cond_false (by kernel_rfl) ?_
 refine wp_skip ?_
 refine hK15 _ _ ?_
 have hx70 := hr1 (by trivial)
 refine wp_seq_k fun K18 hK18 => ?_
 refine wp_region_lit ?_
 with_reducible
  refine wv (.int .i64 ((n : Int))) ?_
  refine wv (.slice A xs.length c) ?_
  refine wv (.int .i64 ((k : Int))) ?_
  try simp only [zP]
  refine wq (.pointer (some ⟨bx, ox + k * 15, none⟩)) (exec_ixA (.tmp 25) (.tmp 26) (A := A) (b := bx) (off := ox) (len := xs.length) (cap := c) (i := k) 15 rfl rfl rfl Tryz.underlying39 hAx hkl) ?_
  refine wv (.pointer (some ⟨bx, ox + k * 15 + 14, none⟩)) ?_
  refine wl (.slice x.D x.dt.length x.dc) ⟨bx, ox + k * 15 + 14, none⟩ (rngCell hrx 14 rfl) Tryz.underlying34 ?_
  refine wv (.int .i64 ((x.dt.length : Int))) ?_
  try simp only [zP]
  refine wq (.int .i64 (((n + x.dt.length : Nat) : Int))) (okIntP ((by rw [IntKind.wrap_i64]; omega) : IntKind.i64.wrap ((n : Int) + (x.dt.length : Int)) = ((n + x.dt.length : Nat) : Int)) (by kernel_rfl)) ?_
  refine wv (.int .i64 (((n + x.dt.length : Nat) : Int))) ?_
 try simp only [zP]
 refine wpList_nil ?_
 refine hK18 _ _ ?_
 refine wp_seq_k fun K19 hK19 => ?_
 refine wp_region_lit ?_
 with_reducible refine wv (.int .i64 (((n + x.dt.length : Nat) : Int))) ?_
 try simp only [zP]
 obtain ⟨b20, hb20⟩ : ∃ d_ : Bool, (decide (((n + x.dt.length : Nat) : Int) > 200000)) = d_ := ⟨_, rfl⟩
 with_reducible refine wb (.bool b20) (.int .i64 (((n + x.dt.length : Nat) : Int))) (.int .i64 200000) 3 (run_gtrI hb20) ?_
 try simp only [zP]
 refine wpList_nil ?_
 refine hK19 _ _ ?_
 cases b20
 ·have pb20 : ¬ (((n + x.dt.length : Nat) : Int) > 200000) := of_decide_eq_false hb20
  refine wp_cond_false (by kernel_rfl) ?_
  refine wp_skip ?_
  refine inBlock_normal ?_
  refine hK14 _ _ ?_
  refine wp_region_lit ?_
  with_reducible
   refine wv (.int .i64 ((k : Int))) ?_
   try simp only [zP]
   refine wq (.int .i64 (((k + 1 : Nat) : Int))) (okIntP ((by rw [IntKind.wrap_i64]; omega) : IntKind.i64.wrap ((k : Int) + 1) = ((k + 1 : Nat) : Int)) (by kernel_rfl)) ?_
   refine wv (.int .i64 (((k + 1 : Nat) : Int))) ?_
  try simp only [zP]
  refine wpList_nil ?_
  refine then_normal ?_
  have a1_ : n + x.dt.length = dsum (xs.take (k + 1)) ∧ n + x.dt.length ≤ 200000 := ⟨by rw [dsum_take hx, hn.1], by omega⟩
  have a2_ : k + 1 ≤ 100 ∧ k + 1 ≤ xs.length := by omega
  exact ⟨(by omega), n + x.dt.length, by kernel_rfl, ee, a1_, a2_⟩
 have pb20 : ((n + x.dt.length : Nat) : Int) > 200000 := of_decide_eq_true hb20
 refine wp_cond_true (by kernel_rfl) ?_
 refine wp_seq_k fun K21 hK21 => ?_
 refine wp_region_lit ?_
 with_reducible refine wv (.bool false) ?_
 try simp only [zP]
 refine wpList_nil ?_
 refine hK21 _ _ ?_
 refine wp_ret ?_
 refine inBlock_ret ?_
 iterate 2 (refine then_ret ?_)
 refine inBlock_ret ?_
 refine then_ret ?_
 exact bodyPost_ret (v := .bool false) (by kernel_rfl) rfl ⟨⟨false, rfl, fun h => by cases h⟩, ee⟩
end Go.Proofs.YtjofjpmhokjhnaaGreatDoor
