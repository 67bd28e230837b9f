import Derived.Test.YtjofjpmhokjhnaaGreatDoorWfM7
import Derived.Test.YtjofjpmhokjhnaaGreatDoorWfM13
import Derived.Test.YtjofjpmhokjhnaaGreatDoorWfM15
import Derived.Test.YtjofjpmhokjhnaaGreatDoorWfM3
import Derived.Deep.QuietTactic
import Derived.Test.YtjofjpmhokjhnaaGreatDoorWfM4
set_option linter.unusedSimpArgs false
set_option linter.unusedVariables false
namespace Go.Proofs.YtjofjpmhokjhnaaGreatDoor
set_option maxRecDepth 20000
open Go.RowKit T
theorem csm (x y : Cm) (w : World) (B : Nat) (hB : B ≤ w.heap.size) (ok : CmOk w B x) (ok' : CmOk w B y) : Calls Tryz.prog 52 #[.agg x.cells.toArray, .agg y.cells.toArray] w fun e w' => e = .returned (.bool (SameC x y)) ∧ Below w.heap.size w w' :=
 csame_any x.k x.s x.q x.rs x.ws x.A1 x.c1 x.A2 x.c2 x.i x.j x.g x.st x.y y.k y.s y.q y.rs y.ws y.A1 y.c1 y.A2 y.c2 y.i y.j y.g y.st y.y w B hB ok ok'
theorem beq_rd {w : World} {B : Nat} {A A' : Option Addr} {c c' : Nat} {l l' : List UInt8} (h : Rd w B A (bc l)) (h' : Rd w B A' (bc l')) : Calls Tryz.prog 43 #[.slice A l.length c, .slice A' l'.length c'] w fun e w' => e = .returned (.bool (decide (l = l'))) ∧ w = w' := bequal_any A c l A' c' l' B w h h'
def T.Rc.same (a b : Rc) : Bool := ((((decide (a.kd = b.kd) && decide (a.br = b.br ∧ a.bn = b.bn)) && decide (a.sl = b.sl)) && SameC a.c b.c) && decide (a.dt = b.dt))
set_option maxHeartbeats 25600000 in
theorem wsame_any (a b : Rc) (w : World) (B0 : Nat) (hB : B0 ≤ w.heap.size) (oka : RcOk w B0 a) (okb : RcOk w B0 b) :
 Calls Tryz.prog 15 #[.agg a.cells.toArray, .agg b.cells.toArray] w fun e w' => e = .returned (.bool (T.Rc.same a b)) ∧ Below w.heap.size w w' := by
 have ee : Below w.heap.size w w := Below.refl _ _
 go_enter Tryz.func15, Tryz.ntmps15
 refine wp_seq_k fun K1 hK1 => ?_
 refine wp_region_lit ?_
 with_reducible refine ww (.pointer (some ⟨w.heap.size, 0, none⟩)) (w.alloc (.cells (a.cells).toArray 36)) ?_
 try simp only [zP]
 have sz_g2 := ee.size
 have sz_ := ee.size
 have ee := ee.alloc ee.size (.cells (a.cells).toArray 36)
 have Zb2 := hpN w (.cells (a.cells).toArray 36) rfl
 obtain ⟨z1, hz_⟩ : ∃ z_ : World, z_ = w.alloc (.cells (a.cells).toArray 36) := ⟨_, rfl⟩
 rw [← hz_] at Zb2 ee ⊢
 clear hz_
 obtain ⟨g2, hg_g2⟩ : ∃ g_, g_ = w.heap.size := ⟨_, rfl⟩
 have hB_g2 : w.heap.size ≤ g2 := by rw [hg_g2]; exact sz_g2
 rw [← hg_g2] at Zb2 ⊢
 clear hg_g2
 with_reducible refine ww (.pointer (some ⟨z1.heap.size, 0, none⟩)) (z1.alloc (.cells (b.cells).toArray 36)) ?_
 try simp only [zP]
 have sz_g3 := ee.size
 have lZb2 := (Array.getElem?_eq_some_iff.1 Zb2).1
 have sz_ := ee.size
 have Zb2 := hpA Zb2 (.cells (b.cells).toArray 36)
 have ee := ee.alloc ee.size (.cells (b.cells).toArray 36)
 have Zb3 := hpN z1 (.cells (b.cells).toArray 36) rfl
 obtain ⟨z2, hz_⟩ : ∃ z_ : World, z_ = z1.alloc (.cells (b.cells).toArray 36) := ⟨_, rfl⟩
 rw [← hz_] at Zb2 Zb3 ee ⊢
 clear hz_
 obtain ⟨g3, hg_g3⟩ : ∃ g_, g_ = z1.heap.size := ⟨_, rfl⟩
 have n_g3_Zb2 : g2 < g3 := by rw [hg_g3]; exact lZb2
 have hB_g3 : w.heap.size ≤ g3 := by rw [hg_g3]; exact sz_g3
 rw [← hg_g3] at Zb3 ⊢
 clear hg_g3 lZb2
 with_reducible refine wv (.bool false) ?_
 try simp only [zP]
 refine wpList_nil ?_
 refine hK1 _ _ ?_
 refine wp_seq_k fun K4 hK4 => ?_
 have hjK4 : ∀ (u5 u6 u7 u8 u9 u10 u11 u12 u13 u14 u15 u16 u17 u18 u19 u20 u21 u22 u23 u24 u25 u26 u27 u28 u29 u30 u31 u32 u33 u34 u35 u36 u37 : Value) (b6 : Bool) (zc4 : World), zc4.heap[g2]? = some (.cells (a.cells).toArray 36 (0, 0)) → zc4.heap[g3]? = some (.cells (b.cells).toArray 36 (0, 0)) → Below w.heap.size w zc4 → ((((decide (a.kd = b.kd) && decide (a.br = b.br ∧ a.bn = b.bn)) && decide (a.sl = b.sl)) && SameC a.c b.c) && decide (a.dt = b.dt)) = b6 → K4 ⟨#[.agg (a.cells).toArray, .agg (b.cells).toArray, .pointer (some ⟨g2, 0, none⟩), .pointer (some ⟨g3, 0, none⟩), .bool b6, u5, u6, u7, u8, u9, u10, u11, u12, u13, u14, u15, u16, u17, u18, u19, u20, u21, u22, u23, u24, u25, u26, u27, u28, u29, u30, u31, u32, u33, u34, u35, u36, u37], []⟩ zc4 := by
  clear Zb2 Zb3 ee
  intro u5 u6 u7 u8 u9 u10 u11 u12 u13 u14 u15 u16 u17 u18 u19 u20 u21 u22 u23 u24 u25 u26 u27 u28 u29 u30 u31 u32 u33 u34 u35 u36 u37 b6 zc4 Zb2 Zb3 ee hb6
  refine hK4 _ _ ?_
  refine wp_ret ?_
  cases b6
  ·exact bodyPost_ret (v := .bool false) (by kernel_rfl) rfl ⟨congrArg (fun b => Ending.returned (.bool b)) (show false = T.Rc.same a b from by unfold T.Rc.same; first | (simp only [hb6]; done) | (simp only [hb6]; rfl) | simp [hb6]), ee⟩
  exact bodyPost_ret (v := .bool true) (by kernel_rfl) rfl ⟨congrArg (fun b => Ending.returned (.bool b)) (show true = T.Rc.same a b from by unfold T.Rc.same; first | (simp only [hb6]; done) | (simp only [hb6]; rfl) | simp [hb6]), ee⟩
 refine wp_region_lit ?_
 with_reducible
  refine wv (.pointer (some ⟨g2, 0, none⟩)) ?_
  refine wl (.int .i64 a.kd) ⟨g2, 0, none⟩ (rowCell Zb2 (0) rfl) Tryz.underlying3 ?_
  refine wv (.pointer (some ⟨g3, 0, none⟩)) ?_
  refine wl (.int .i64 b.kd) ⟨g3, 0, none⟩ (rowCell Zb3 (0) rfl) Tryz.underlying3 ?_
 try simp only [zP]
 obtain ⟨b7, hb7⟩ : ∃ d_ : Bool, (decide (a.kd = b.kd)) = d_ := ⟨_, rfl⟩
 with_reducible
  refine wb (.bool b7) (.int .i64 a.kd) (.int .i64 b.kd) 3 (run_eqlI hb7) ?_
  refine wv (.bool b7) ?_
 try simp only [zP]
 cases b7
 ·have pb7 : ¬ (a.kd = b.kd) := of_decide_eq_false hb7
  with_reducible
   iterate 4 ((refine wk ?_);(refine wk ?_);(refine wk ?_);(refine wk ?_);(refine wk ?_);(refine wv (.bool false) ?_);(refine wv (.bool false) ?_))
  try simp only [zP]
  refine wpList_nil ?_
  exact hjK4 _ _ _ _ _ _ _ _ _ _ _ _ _ _ _ _ _ _ _ _ _ _ _ _ _ _ _ _ _ _ _ _ _ false _ Zb2 Zb3 ee (by first | (simp only [hb7]; done) | (simp only [hb7]; rfl) | simp [hb7])
 have pb7 : a.kd = b.kd := of_decide_eq_true hb7
 with_reducible
  refine wv (.pointer (some ⟨g2, 1, none⟩)) ?_
  refine wg (g2) (1) ([.int .u32 (a.br : Int), .int .i64 a.bn]) (rowMid Zb2 (1) (partOf 1 (by kernel_rfl))) Tryz.underlying24 ?_
  refine wv (.pointer (some ⟨g3, 1, none⟩)) ?_
  refine wg (g3) (1) ([.int .u32 (b.br : Int), .int .i64 b.bn]) (rowMid Zb3 (1) (partOf 1 (by kernel_rfl))) Tryz.underlying24 ?_
 try simp only [zP]
 obtain ⟨b8, hb8⟩ : ∃ d_ : Bool, (decide (a.br = b.br ∧ a.bn = b.bn)) = d_ := ⟨_, rfl⟩
 with_reducible refine wb (.bool b8) (.agg ([.int .u32 (a.br : Int), .int .i64 a.bn]).toArray) (.agg ([.int .u32 (b.br : Int), .int .i64 b.bn]).toArray) 24 (run_E (by have := B.run_eqBal a.br a.bn b.br b.bn z2; rw [hb8] at this; exact this)) ?_
 iterate 2 (with_reducible refine wv (.bool b8) ?_)
 try simp only [zP]
 cases b8
 ·with_reducible refine wk ?_
  try simp only [zP]
  with_reducible
   iterate 2 ((refine wk ?_);(refine wk ?_);(refine wk ?_);(refine wk ?_);(refine wv (.bool false) ?_);(refine wv (.bool false) ?_);(refine wk ?_))
  iterate 4 (with_reducible refine wk ?_)
  iterate 2 (with_reducible refine wv (.bool false) ?_)
  try simp only [zP]
  refine wpList_nil ?_
  exact hjK4 _ _ _ _ _ _ _ _ _ _ _ _ _ _ _ _ _ _ _ _ _ _ _ _ _ _ _ _ _ _ _ _ _ false _ Zb2 Zb3 ee (by first | (simp only [hb7, hb8]; done) | (simp only [hb7, hb8]; rfl) | simp [hb7, hb8])
 with_reducible
  refine wv (.pointer (some ⟨g2, 3, none⟩)) ?_
  refine wl (.int .i64 a.sl) ⟨g2, 3, none⟩ (rowCell Zb2 (3) rfl) Tryz.underlying3 ?_
  refine wv (.pointer (some ⟨g3, 3, none⟩)) ?_
  refine wl (.int .i64 b.sl) ⟨g3, 3, none⟩ (rowCell Zb3 (3) rfl) Tryz.underlying3 ?_
 try simp only [zP]
 obtain ⟨b9, hb9⟩ : ∃ d_ : Bool, (decide (a.sl = b.sl)) = d_ := ⟨_, rfl⟩
 with_reducible refine wb (.bool b9) (.int .i64 a.sl) (.int .i64 b.sl) 3 (run_eqlI hb9) ?_
 iterate 2 (with_reducible refine wv (.bool b9) ?_)
 try simp only [zP]
 cases b9
 ·have pb9 : ¬ (a.sl = b.sl) := of_decide_eq_false hb9
  with_reducible
   iterate 2 ((refine wk ?_);(refine wk ?_);(refine wk ?_);(refine wk ?_);(refine wk ?_);(refine wv (.bool false) ?_);(refine wv (.bool false) ?_))
  try simp only [zP]
  refine wpList_nil ?_
  exact hjK4 _ _ _ _ _ _ _ _ _ _ _ _ _ _ _ _ _ _ _ _ _ _ _ _ _ _ _ _ _ _ _ _ _ false _ Zb2 Zb3 ee (by first | (simp only [hb7, hb8, hb9]; done) | (simp only [hb7, hb8, hb9]; rfl) | simp [hb7, hb8, hb9])
 have pb9 : a.sl = b.sl := of_decide_eq_true hb9
 with_reducible
  refine wv (.pointer (some ⟨g2, 4, none⟩)) ?_
  refine wg (g2) (4) (a.c.cells) (rowMid Zb2 (4) (partOf 4 (by kernel_rfl))) Tryz.underlying33 ?_
  refine wv (.pointer (some ⟨g3, 4, none⟩)) ?_
  refine wg (g3) (4) (b.c.cells) (rowMid Zb3 (4) (partOf 4 (by kernel_rfl))) Tryz.underlying33 ?_
  try simp only [zP]
  refine wc 52 #[.agg (a.c.cells).toArray, .agg (b.c.cells).toArray] (csm a.c b.c z2 B0 (Nat.le_trans hB ee.size) (oka.c.below ee hB) (okb.c.below ee hB)) ?_
 rintro e z3 ⟨rfl, t⟩
 refine ⟨_, rfl, ?_⟩
 have Zb2 := hpB Zb2 t
 have Zb3 := hpB Zb3 t
 have ee := ee.trans (t.mono ee.size)
 clear t
 generalize hb10 : SameC a.c b.c = b10
 try simp only [zP]
 iterate 2 (with_reducible refine wv (.bool b10) ?_)
 try simp only [zP]
 cases b10
 ·with_reducible refine wk ?_
  try simp only [zP]
  iterate 4 (with_reducible refine wk ?_)
  iterate 2 (with_reducible refine wv (.bool false) ?_)
  try simp only [zP]
  refine wpList_nil ?_
  exact hjK4 _ _ _ _ _ _ _ _ _ _ _ _ _ _ _ _ _ _ _ _ _ _ _ _ _ _ _ _ _ _ _ _ _ false _ Zb2 Zb3 ee (by first | (simp only [hb7, hb8, hb9, hb10]; done) | (simp only [hb7, hb8, hb9, hb10]; rfl) | simp [hb7, hb8, hb9, hb10])
 with_reducible
  refine wv (.pointer (some ⟨g2, 14, none⟩)) ?_
  refine wl (.slice a.D a.dt.length a.dc) ⟨g2, 14, none⟩ (rowCell Zb2 (14) rfl) Tryz.underlying34 ?_
  refine wv (.pointer (some ⟨g3, 14, none⟩)) ?_
  refine wl (.slice b.D b.dt.length b.dc) ⟨g3, 14, none⟩ (rowCell Zb3 (14) rfl) Tryz.underlying34 ?_
  try simp only [zP]
  refine wc 43 #[.slice a.D a.dt.length a.dc, .slice b.D b.dt.length b.dc] (beq_rd (oka.below ee hB).d (okb.below ee hB).d) ?_
 rintro e z4 ⟨rfl, hw_⟩
 refine ⟨_, rfl, ?_⟩
 rw [← hw_]
 clear hw_ z4
 generalize hb11 : decide (a.dt = b.dt) = b11
 try simp only [zP]
 iterate 2 (with_reducible refine wv (.bool b11) ?_)
 try simp only [zP]
 refine wpList_nil ?_
 exact hjK4 _ _ _ _ _ _ _ _ _ _ _ _ _ _ _ _ _ _ _ _ _ _ _ _ _ _ _ _ _ _ _ _ _ b11 _ Zb2 Zb3 ee (by first | (simp only [hb7, hb8, hb9, hb10, hb11]; done) | (simp only [hb7, hb8, hb9, hb10, hb11]; rfl) | simp [hb7, hb8, hb9, hb10, hb11])
end Go.Proofs.YtjofjpmhokjhnaaGreatDoor
