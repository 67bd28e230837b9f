import Derived.Test.YtjofjpmhokjhnaaGreatDoorWfM16
set_option linter.unusedSimpArgs false
set_option linter.unusedVariables false
namespace Go.Proofs.YtjofjpmhokjhnaaGreatDoor
set_option maxRecDepth 20000
open Go.RowKit T
namespace T
def Rc.only (x : Rc) : Rc := if x.kd = 1 then ({ Rc.zero with kd := 1, br := x.br, bn := x.bn } : Rc) else if x.kd = 2 then ({ Rc.zero with kd := 2, br := x.br, bn := x.bn, sl := x.sl, c := x.c } : Rc) else if x.kd = 3 then ({ Rc.zero with kd := 3, sl := x.sl, c := x.c } : Rc) else if x.kd = 4 then ({ Rc.zero with kd := 4, sl := x.sl, dt := x.dt, D := x.D, dc := x.dc } : Rc) else Rc.zero
def Rc.formed (x : Rc) : Bool := decide (x.only.kd > 0) && T.Rc.same x x.only && B.formed x.bn && x.c.formed && decide (x.sl ≥ 0) && decide (x.sl ≤ 1000000) && decide ((x.dt.length : Int) ≤ 59900)
end T
theorem okOnly {w : World} {B : Nat} {x : Rc} (h : RcOk w B x) : RcOk w B x.only := by
 unfold T.Rc.only
 split
 ·exact ⟨CmOk.zero, Rd.nil, Nat.le_refl _, by simp [Rc.zero, maxLen], fun _ => ⟨rfl, rfl⟩, h.br⟩
 split
 ·exact ⟨h.c, Rd.nil, Nat.le_refl _, by simp [Rc.zero, maxLen], fun _ => ⟨rfl, rfl⟩, h.br⟩
 split
 ·exact ⟨h.c, Rd.nil, Nat.le_refl _, by simp [Rc.zero, maxLen], fun _ => ⟨rfl, rfl⟩, by simp [Rc.zero]⟩
 split
 ·exact ⟨CmOk.zero, h.d, h.dl, h.dm, h.dn, by simp [Rc.zero]⟩
 ·exact rcZero
theorem cfm (x : Cm) (w : World) (B : Nat) (hB : B ≤ w.heap.size) (ok : CmOk w B x) (hT : Tabs w) : Calls Tryz.prog 48 #[.agg x.cells.toArray] w fun e w' => e = .returned (.bool x.formed) ∧ Below w.heap.size w w' :=
 cformed_any x.k x.s x.q x.rs x.ws x.A1 x.c1 x.A2 x.c2 x.i x.j x.g x.st x.y w B hB ok hT
set_option maxHeartbeats 25600000 in
theorem wformed_any (x : Rc) (w : World) (B0 : Nat) (hB : B0 ≤ w.heap.size) (ok : RcOk w B0 x) (hT : Tabs w) :
 Calls Tryz.prog 13 #[.agg x.cells.toArray] w fun e w' => e = .returned (.bool x.formed) ∧ Below w.heap.size w w' := by
 have ee : Below w.heap.size w w := Below.refl _ _
 go_enter Tryz.func13, Tryz.ntmps13
 refine wp_seq_k fun K1 hK1 => ?_
 refine wp_region_lit ?_
 with_reducible refine ww (.pointer (some ⟨w.heap.size, 0, none⟩)) (w.alloc (.cells (x.cells).toArray 36)) ?_
 try simp only [zP]
 have sz_g2 := ee.size
 have sz_ := ee.size
 have ee := ee.alloc ee.size (.cells (x.cells).toArray 36)
 have Zb1 := hpN w (.cells (x.cells).toArray 36) rfl
 obtain ⟨z1, hz_⟩ : ∃ z_ : World, z_ = w.alloc (.cells (x.cells).toArray 36) := ⟨_, rfl⟩
 rw [← hz_] at Zb1 ee ⊢
 clear hz_
 obtain ⟨g2, hg_g2⟩ : ∃ g_, g_ = w.heap.size := ⟨_, rfl⟩
 have hB_g2 : w.heap.size ≤ g2 := by rw [hg_g2]; exact sz_g2
 rw [← hg_g2] at Zb1 ⊢
 clear hg_g2
 with_reducible refine wv (.bool false) ?_
 try simp only [zP]
 refine wpList_nil ?_
 refine hK1 _ _ ?_
 refine wp_seq_k fun K3 hK3 => ?_
 refine wp_region_lit ?_
 with_reducible refine ww (.pointer (some ⟨z1.heap.size, 0, none⟩)) (z1.alloc (.cells #[.int .i64 0, .int .u32 0, .int .i64 0, .int .i64 0, .int .i64 0, .int .i64 0, .int .i64 0, .slice none 0 0, .slice none 0 0, .int .i64 0, .int .i64 0, .int .i64 0, .int .u64 0, .bool false, .slice none 0 0] 36)) ?_
 try simp only [zP]
 have sz_g4 := ee.size
 have lZb1 := (Array.getElem?_eq_some_iff.1 Zb1).1
 have sz_ := ee.size
 have Zb1 := hpA Zb1 (.cells #[.int .i64 0, .int .u32 0, .int .i64 0, .int .i64 0, .int .i64 0, .int .i64 0, .int .i64 0, .slice none 0 0, .slice none 0 0, .int .i64 0, .int .i64 0, .int .i64 0, .int .u64 0, .bool false, .slice none 0 0] 36)
 have ee := ee.alloc ee.size (.cells #[.int .i64 0, .int .u32 0, .int .i64 0, .int .i64 0, .int .i64 0, .int .i64 0, .int .i64 0, .slice none 0 0, .slice none 0 0, .int .i64 0, .int .i64 0, .int .i64 0, .int .u64 0, .bool false, .slice none 0 0] 36)
 have Zv3 := hpN z1 (.cells #[.int .i64 0, .int .u32 0, .int .i64 0, .int .i64 0, .int .i64 0, .int .i64 0, .int .i64 0, .slice none 0 0, .slice none 0 0, .int .i64 0, .int .i64 0, .int .i64 0, .int .u64 0, .bool false, .slice none 0 0] 36) rfl
 obtain ⟨z2, hz_⟩ : ∃ z_ : World, z_ = z1.alloc (.cells #[.int .i64 0, .int .u32 0, .int .i64 0, .int .i64 0, .int .i64 0, .int .i64 0, .int .i64 0, .slice none 0 0, .slice none 0 0, .int .i64 0, .int .i64 0, .int .i64 0, .int .u64 0, .bool false, .slice none 0 0] 36) := ⟨_, rfl⟩
 rw [← hz_] at Zb1 Zv3 ee ⊢
 clear hz_
 obtain ⟨g4, hg_g4⟩ : ∃ g_, g_ = z1.heap.size := ⟨_, rfl⟩
 have n_g4_Zb1 : g2 < g4 := by rw [hg_g4]; exact lZb1
 have hB_g4 : w.heap.size ≤ g4 := by rw [hg_g4]; exact sz_g4
 rw [← hg_g4] at Zv3 ⊢
 clear hg_g4 lZb1
 refine wpList_nil ?_
 refine hK3 _ _ ?_
 refine wp_seq_k fun K5 hK5 => ?_
 refine wp_seq_k fun K6 hK6 => ?_
 refine wp_region_lit ?_
 with_reducible
  refine wv (.pointer (some ⟨g2, 0, none⟩)) ?_
  refine wl (.int .i64 x.kd) ⟨g2, 0, none⟩ (rowCell Zb1 (0) rfl) Tryz.underlying3 ?_
 try simp only [zP]
 refine wpList_nil ?_
 refine hK6 _ _ ?_
 refine wp_block ?_
 refine wp_seq_k fun K7 hK7 => ?_
 refine wp_region_lit ?_
 obtain ⟨b8, hb8⟩ : ∃ d_ : Bool, (decide (x.kd = 1)) = d_ := ⟨_, rfl⟩
 with_reducible
  refine wb (.bool b8) (.int .i64 x.kd) (.int .i64 1) 3 (run_eqlI hb8) ?_
  refine wv (.bool b8) ?_
 try simp only [zP]
 refine wpList_nil ?_
 refine hK7 _ _ ?_
 cases b8
 ·have pb8 : ¬ (x.kd = 1) := of_decide_eq_false hb8
  refine wp_cond_false (by kernel_rfl) ?_
  refine wp_seq_k fun K9 hK9 => ?_
  refine wp_region_lit ?_
  obtain ⟨b10, hb10⟩ : ∃ d_ : Bool, (decide (x.kd = 2)) = d_ := ⟨_, rfl⟩
  with_reducible
   refine wb (.bool b10) (.int .i64 x.kd) (.int .i64 2) 3 (run_eqlI hb10) ?_
   refine wv (.bool b10) ?_
  try simp only [zP]
  refine wpList_nil ?_
  refine hK9 _ _ ?_
  cases b10
  ·have pb10 : ¬ (x.kd = 2) := of_decide_eq_false hb10
   refine wp_cond_false (by kernel_rfl) ?_
   refine wp_seq_k fun K11 hK11 => ?_
   refine wp_region_lit ?_
   obtain ⟨b12, hb12⟩ : ∃ d_ : Bool, (decide (x.kd = 3)) = d_ := ⟨_, rfl⟩
   with_reducible
    refine wb (.bool b12) (.int .i64 x.kd) (.int .i64 3) 3 (run_eqlI hb12) ?_
    refine wv (.bool b12) ?_
   try simp only [zP]
   refine wpList_nil ?_
   refine hK11 _ _ ?_
   cases b12
   ·have pb12 : ¬ (x.kd = 3) := of_decide_eq_false hb12
    refine wp_cond_false (by kernel_rfl) ?_
    refine wp_seq_k fun K13 hK13 => ?_
    refine wp_region_lit ?_
    obtain ⟨b14, hb14⟩ : ∃ d_ : Bool, (decide (x.kd = 4)) = d_ := ⟨_, rfl⟩
    with_reducible
     refine wb (.bool b14) (.int .i64 x.kd) (.int .i64 4) 3 (run_eqlI hb14) ?_
     refine wv (.bool b14) ?_
    try simp only [zP]
    refine wpList_nil ?_
    refine hK13 _ _ ?_
    cases b14
    ·have pb14 : ¬ (x.kd = 4) := of_decide_eq_false hb14
     refine wp_cond_false (by kernel_rfl) ?_
     refine wp_skip ?_
     refine inBlock_normal ?_
     refine hK5 _ _ ?_
     have hy : x.only = Rc.zero := by unfold T.Rc.only; simp [pb8, pb10, pb12, pb14]
     refine wp_seq_k fun K15 hK15 => ?_
     have hjK15 : ∀ (u34 u35 u36 u37 u38 u39 u40 u41 u42 u43 u44 u45 u46 u47 u48 u49 u50 u51 u52 u53 u54 u55 u56 u57 u58 u59 u60 u61 u62 u63 u64 u65 u66 u67 : Value) (b17 : Bool) (zc15 : World), zc15.heap[g2]? = some (.cells (x.cells).toArray 36 (0, 0)) → zc15.heap[g4]? = some (.cells #[.int .i64 0, .int .u32 0, .int .i64 0, .int .i64 0, .int .i64 0, .int .i64 0, .int .i64 0, .slice none 0 0, .slice none 0 0, .int .i64 0, .int .i64 0, .int .i64 0, .int .u64 0, .bool false, .slice none 0 0] 36 (0, 0)) → Below w.heap.size w zc15 → ((((((decide (0 > 0) && T.Rc.same x Rc.zero) && B.formed x.bn) && x.c.formed) && decide (x.sl ≥ 0)) && decide (x.sl ≤ 1000000)) && decide ((x.dt.length : Int) ≤ 59900)) = b17 → K15 ⟨#[.agg (x.cells).toArray, .pointer (some ⟨g2, 0, none⟩), .bool b17, .pointer (some ⟨g4, 0, none⟩), .pointer (some ⟨g2, 0, none⟩), .int .i64 x.kd, .bool false, .bool false, undef, undef, undef, .bool false, .bool false, undef, undef, undef, undef, undef, undef, undef, .bool false, .bool false, undef, undef, undef, undef, undef, .bool false, .bool false, undef, undef, undef, undef, undef, u34, u35, u36, u37, u38, u39, u40, u41, u42, u43, u44, u45, u46, u47, u48, u49, u50, u51, u52, u53, u54, u55, u56, u57, u58, u59, u60, u61, u62, u63, u64, u65, u66, u67], []⟩ zc15 := by
      clear Zb1 Zv3 ee
      intro u34 u35 u36 u37 u38 u39 u40 u41 u42 u43 u44 u45 u46 u47 u48 u49 u50 u51 u52 u53 u54 u55 u56 u57 u58 u59 u60 u61 u62 u63 u64 u65 u66 u67 b17 zc15 Zb1 Zv3 ee hb17
      refine hK15 _ _ ?_
      refine wp_ret ?_
      cases b17
      ·exact bodyPost_ret (v := .bool false) (by kernel_rfl) rfl ⟨congrArg (fun b => Ending.returned (.bool b)) (show false = x.formed from by unfold T.Rc.formed; rw [hy]; first | exact hb17.symm | (simp [hb17, Rc.zero]; done)), ee⟩
      exact bodyPost_ret (v := .bool true) (by kernel_rfl) rfl ⟨congrArg (fun b => Ending.returned (.bool b)) (show true = x.formed from by unfold T.Rc.formed; rw [hy]; first | exact hb17.symm | (simp [hb17, Rc.zero]; done)), ee⟩
     refine wp_region_lit ?_
     with_reducible
      refine wv (.pointer (some ⟨g4, 0, none⟩)) ?_
      refine wl (.int .i64 0) ⟨g4, 0, none⟩ (rowCell Zv3 (0) rfl) Tryz.underlying3 ?_
      refine wb (.bool false) (.int .i64 0) (.int .i64 0) 3 (run_gtrI (show (decide (0 > 0)) = false from by decide)) ?_
      iterate 5 ((refine wv (.bool false) ?_);(refine wk ?_);(refine wk ?_);(refine wk ?_);(refine wv (.bool false) ?_))
      refine wv (.bool false) ?_
     iterate 4 (with_reducible refine wk ?_)
     iterate 2 (with_reducible refine wv (.bool false) ?_)
     try simp only [zP]
     refine wpList_nil ?_
     exact hjK15 _ _ _ _ _ _ _ _ _ _ _ _ _ _ _ _ _ _ _ _ _ _ _ _ _ _ _ _ _ _ _ _ _ _ false _ Zb1 Zv3 ee (by first | (simp only [hb8, hb10, hb12, hb14]; done) | (simp only [hb8, hb10, hb12, hb14]; rfl) | simp [hb8, hb10, hb12, hb14])
    have pb14 : x.kd = 4 := of_decide_eq_true hb14
    have eb14 : x.kd = 4 := of_decide_eq_true hb14
    refine wp_cond_true (by kernel_rfl) ?_
    refine wp_region_lit ?_
    with_reducible
     refine wv (.pointer (some ⟨g2, 3, none⟩)) ?_
     refine wl (.int .i64 x.sl) ⟨g2, 3, none⟩ (rowCell Zb1 (3) rfl) Tryz.underlying3 ?_
     refine wv (.pointer (some ⟨g2, 14, none⟩)) ?_
     refine wl (.slice x.D x.dt.length x.dc) ⟨g2, 14, none⟩ (rowCell Zb1 (14) rfl) Tryz.underlying34 ?_
     refine wv (.agg (({ Rc.zero with kd := 4, sl := x.sl, dt := x.dt, D := x.D, dc := x.dc } : Rc).cells).toArray) ?_
    try simp only [zP]
    refine wpList_store_row rfl 36 _ _ rfl (g4) (({ Rc.zero with kd := 4, sl := x.sl, dt := x.dt, D := x.D, dc := x.dc } : Rc).cells).toArray rfl rfl 36 _ Zv3 sizeRc (by rfl) (Rc.one _) ?_
    have N_ := setRow_heap z2 (g4) _ (({ Rc.zero with kd := 4, sl := x.sl, dt := x.dt, D := x.D, dc := x.dc } : Rc).cells).toArray _ _ Zv3
    have ee := belowSet (cs := (({ Rc.zero with kd := 4, sl := x.sl, dt := x.dt, D := x.D, dc := x.dc } : Rc).cells).toArray) ee Zv3 (by omega)
    have Zb1 := hpR Zb1 (g' := g4) (by omega) (({ Rc.zero with kd := 4, sl := x.sl, dt := x.dt, D := x.D, dc := x.dc } : Rc).cells).toArray
    clear Zv3
    have Zv3 := N_
    clear N_
    obtain ⟨z3, hz_⟩ : ∃ z_ : World, z_ = z2.setRow (g4) (({ Rc.zero with kd := 4, sl := x.sl, dt := x.dt, D := x.D, dc := x.dc } : Rc).cells).toArray := ⟨_, rfl⟩
    rw [← hz_] at Zb1 Zv3 ee ⊢
    clear hz_
    try simp only [zP]
    refine wpList_nil ?_
    refine inBlock_normal ?_
    refine hK5 _ _ ?_
    have hy : x.only = ({ Rc.zero with kd := 4, sl := x.sl, dt := x.dt, D := x.D, dc := x.dc } : Rc) := by unfold T.Rc.only; simp [pb8, pb10, pb12, pb14]
    refine wp_seq_k fun K18 hK18 => ?_
    have hjK18 : ∀ (u34 u35 u36 u37 u38 u39 u40 u41 u42 u43 u44 u45 u46 u47 u48 u49 u50 u51 u52 u53 u54 u55 u56 u57 u58 u59 u60 u61 u62 u63 u64 u65 u66 u67 : Value) (b20 : Bool) (zc18 : World), zc18.heap[g2]? = some (.cells (x.cells).toArray 36 (0, 0)) → zc18.heap[g4]? = some (.cells (({ Rc.zero with kd := 4, sl := x.sl, dt := x.dt, D := x.D, dc := x.dc } : Rc).cells).toArray 36 (0, 0)) → Below w.heap.size w zc18 → ((((((decide (4 > 0) && T.Rc.same x ({ Rc.zero with kd := 4, sl := x.sl, dt := x.dt, D := x.D, dc := x.dc } : Rc)) && B.formed x.bn) && x.c.formed) && decide (x.sl ≥ 0)) && decide (x.sl ≤ 1000000)) && decide ((x.dt.length : Int) ≤ 59900)) = b20 → K18 ⟨#[.agg (x.cells).toArray, .pointer (some ⟨g2, 0, none⟩), .bool b20, .pointer (some ⟨g4, 0, none⟩), .pointer (some ⟨g2, 0, none⟩), .int .i64 x.kd, .bool false, .bool false, undef, undef, undef, .bool false, .bool false, undef, undef, undef, undef, undef, undef, undef, .bool false, .bool false, undef, undef, undef, undef, undef, .bool true, .bool true, .pointer (some ⟨g2, 3, none⟩), .int .i64 x.sl, .pointer (some ⟨g2, 14, none⟩), .slice x.D x.dt.length x.dc, .agg (({ Rc.zero with kd := 4, sl := x.sl, dt := x.dt, D := x.D, dc := x.dc } : Rc).cells).toArray, u34, u35, u36, u37, u38, u39, u40, u41, u42, u43, u44, u45, u46, u47, u48, u49, u50, u51, u52, u53, u54, u55, u56, u57, u58, u59, u60, u61, u62, u63, u64, u65, u66, u67], []⟩ zc18 := by
     clear Zb1 Zv3 ee
     intro u34 u35 u36 u37 u38 u39 u40 u41 u42 u43 u44 u45 u46 u47 u48 u49 u50 u51 u52 u53 u54 u55 u56 u57 u58 u59 u60 u61 u62 u63 u64 u65 u66 u67 b20 zc18 Zb1 Zv3 ee hb20
     refine hK18 _ _ ?_
     refine wp_ret ?_
     cases b20
     ·exact bodyPost_ret (v := .bool false) (by kernel_rfl) rfl ⟨congrArg (fun b => Ending.returned (.bool b)) (show false = x.formed from by unfold T.Rc.formed; rw [hy]; first | exact hb20.symm | (simp [hb20, Rc.zero]; done)), ee⟩
     exact bodyPost_ret (v := .bool true) (by kernel_rfl) rfl ⟨congrArg (fun b => Ending.returned (.bool b)) (show true = x.formed from by unfold T.Rc.formed; rw [hy]; first | exact hb20.symm | (simp [hb20, Rc.zero]; done)), ee⟩
    refine wp_region_lit ?_
    with_reducible
     refine wv (.pointer (some ⟨g4, 0, none⟩)) ?_
     refine wl (.int .i64 4) ⟨g4, 0, none⟩ (rowCell Zv3 (0) rfl) Tryz.underlying3 ?_
     refine wb (.bool true) (.int .i64 4) (.int .i64 0) 3 (run_gtrI (show (decide (4 > 0)) = true from by decide)) ?_
     refine wv (.bool true) ?_
     refine wg (g2) (0) (x.cells) (rowAt Zb1) Tryz.underlying36 ?_
     refine wg (g4) (0) (({ Rc.zero with kd := 4, sl := x.sl, dt := x.dt, D := x.D, dc := x.dc } : Rc).cells) (rowAt Zv3) Tryz.underlying36 ?_
     try simp only [zP]
     refine wc 15 #[.agg (x.cells).toArray, .agg (({ Rc.zero with kd := 4, sl := x.sl, dt := x.dt, D := x.D, dc := x.dc } : Rc).cells).toArray] (wsame_any x ({ Rc.zero with kd := 4, sl := x.sl, dt := x.dt, D := x.D, dc := x.dc } : Rc) z3 B0 (Nat.le_trans hB ee.size) (ok.below ee hB) (by rw [← hy]; exact okOnly (ok.below ee hB))) ?_
    rintro e z4 ⟨rfl, t⟩
    refine ⟨_, rfl, ?_⟩
    have Zb1 := hpB Zb1 t
    have Zv3 := hpB Zv3 t
    have ee := ee.trans (t.mono ee.size)
    clear t
    generalize hb21 : T.Rc.same x ({ Rc.zero with kd := 4, sl := x.sl, dt := x.dt, D := x.D, dc := x.dc } : Rc) = b21
    try simp only [zP]
    iterate 2 (with_reducible refine wv (.bool b21) ?_)
    try simp only [zP]
    cases b21
    ·with_reducible refine wk ?_
     try simp only [zP]
     with_reducible
      iterate 4 ((refine wk ?_);(refine wk ?_);(refine wv (.bool false) ?_);(refine wv (.bool false) ?_);(refine wk ?_))
     iterate 3 (with_reducible refine wk ?_)
     iterate 2 (with_reducible refine wv (.bool false) ?_)
     try simp only [zP]
     refine wpList_nil ?_
     exact hjK18 _ _ _ _ _ _ _ _ _ _ _ _ _ _ _ _ _ _ _ _ _ _ _ _ _ _ _ _ _ _ _ _ _ _ false _ Zb1 Zv3 ee (by first | (simp only [hb8, hb10, hb12, hb14, hb21]; done) | (simp only [hb8, hb10, hb12, hb14, hb21]; rfl) | simp [hb8, hb10, hb12, hb14, hb21])
    with_reducible
     refine wv (.pointer (some ⟨g2, 1, none⟩)) ?_
     refine wg (g2) (1) ([.int .u32 (x.br : Int), .int .i64 x.bn]) (rowMid Zb1 (1) (partOf 1 (by kernel_rfl))) Tryz.underlying24 ?_
     try simp only [zP]
     refine wc 47 #[.agg ([.int .u32 (x.br : Int), .int .i64 x.bn]).toArray] (bformed_any x.br x.bn z4) ?_
    rintro e z5 ⟨rfl, t⟩
    refine ⟨_, rfl, ?_⟩
    have Zb1 := hpB Zb1 t
    have Zv3 := hpB Zv3 t
    have ee := ee.trans (t.mono ee.size)
    clear t
    generalize hb22 : B.formed x.bn = b22
    try simp only [zP]
    iterate 2 (with_reducible refine wv (.bool b22) ?_)
    try simp only [zP]
    cases b22
    ·with_reducible refine wk ?_
     try simp only [zP]
     with_reducible
      iterate 3 ((refine wk ?_);(refine wk ?_);(refine wv (.bool false) ?_);(refine wv (.bool false) ?_);(refine wk ?_))
     iterate 3 (with_reducible refine wk ?_)
     iterate 2 (with_reducible refine wv (.bool false) ?_)
     try simp only [zP]
     refine wpList_nil ?_
     exact hjK18 _ _ _ _ _ _ _ _ _ _ _ _ _ _ _ _ _ _ _ _ _ _ _ _ _ _ _ _ _ _ _ _ _ _ false _ Zb1 Zv3 ee (by first | (simp only [hb8, hb10, hb12, hb14, hb21, hb22]; done) | (simp only [hb8, hb10, hb12, hb14, hb21, hb22]; rfl) | simp [hb8, hb10, hb12, hb14, hb21, hb22])
    with_reducible
     refine wv (.pointer (some ⟨g2, 4, none⟩)) ?_
     refine wg (g2) (4) (x.c.cells) (rowMid Zb1 (4) (partOf 4 (by kernel_rfl))) Tryz.underlying33 ?_
     try simp only [zP]
     refine wc 48 #[.agg (x.c.cells).toArray] (cfm x.c z5 B0 (Nat.le_trans hB ee.size) (ok.c.below ee hB) (hT.below ee)) ?_
    rintro e z6 ⟨rfl, t⟩
    refine ⟨_, rfl, ?_⟩
    have Zb1 := hpB Zb1 t
    have Zv3 := hpB Zv3 t
    have ee := ee.trans (t.mono ee.size)
    clear t
    generalize hb23 : x.c.formed = b23
    try simp only [zP]
    iterate 2 (with_reducible refine wv (.bool b23) ?_)
    try simp only [zP]
    cases b23
    ·with_reducible refine wk ?_
     try simp only [zP]
     with_reducible
      iterate 2 ((refine wk ?_);(refine wk ?_);(refine wv (.bool false) ?_);(refine wv (.bool false) ?_);(refine wk ?_))
     iterate 3 (with_reducible refine wk ?_)
     iterate 2 (with_reducible refine wv (.bool false) ?_)
     try simp only [zP]
     refine wpList_nil ?_
     exact hjK18 _ _ _ _ _ _ _ _ _ _ _ _ _ _ _ _ _ _ _ _ _ _ _ _ _ _ _ _ _ _ _ _ _ _ false _ Zb1 Zv3 ee (by first | (simp only [hb8, hb10, hb12, hb14, hb21, hb22, hb23]; done) | (simp only [hb8, hb10, hb12, hb14, hb21, hb22, hb23]; rfl) | simp [hb8, hb10, hb12, hb14, hb21, hb22, hb23])
    with_reducible
     refine wv (.pointer (some ⟨g2, 3, none⟩)) ?_
     refine wl (.int .i64 x.sl) ⟨g2, 3, none⟩ (rowCell Zb1 (3) rfl) Tryz.underlying3 ?_
    try simp only [zP]
    obtain ⟨b24, hb24⟩ : ∃ d_ : Bool, (decide (x.sl ≥ 0)) = d_ := ⟨_, rfl⟩
    with_reducible refine wb (.bool b24) (.int .i64 x.sl) (.int .i64 0) 3 (run_geqI hb24) ?_
    iterate 2 (with_reducible refine wv (.bool b24) ?_)
    try simp only [zP]
    cases b24
    ·have pb24 : ¬ (x.sl ≥ 0) := of_decide_eq_false hb24
     iterate 3 (with_reducible refine wk ?_)
     iterate 2 (with_reducible refine wv (.bool false) ?_)
     iterate 4 (with_reducible refine wk ?_)
     iterate 2 (with_reducible refine wv (.bool false) ?_)
     try simp only [zP]
     refine wpList_nil ?_
     exact hjK18 _ _ _ _ _ _ _ _ _ _ _ _ _ _ _ _ _ _ _ _ _ _ _ _ _ _ _ _ _ _ _ _ _ _ false _ Zb1 Zv3 ee (by first | (simp only [hb8, hb10, hb12, hb14, hb21, hb22, hb23, hb24]; done) | (simp only [hb8, hb10, hb12, hb14, hb21, hb22, hb23, hb24]; rfl) | simp [hb8, hb10, hb12, hb14, hb21, hb22, hb23, hb24])
    have pb24 : x.sl ≥ 0 := of_decide_eq_true hb24
    with_reducible
     refine wv (.pointer (some ⟨g2, 3, none⟩)) ?_
     refine wl (.int .i64 x.sl) ⟨g2, 3, none⟩ (rowCell Zb1 (3) rfl) Tryz.underlying3 ?_
    try simp only [zP]
    obtain ⟨b25, hb25⟩ : ∃ d_ : Bool, (decide (x.sl ≤ 1000000)) = d_ := ⟨_, rfl⟩
    with_reducible refine wb (.bool b25) (.int .i64 x.sl) (.int .i64 1000000) 3 (run_leqI hb25) ?_
    iterate 2 (with_reducible refine wv (.bool b25) ?_)
    try simp only [zP]
    cases b25
    ·have pb25 : ¬ (x.sl ≤ 1000000) := of_decide_eq_false hb25
     iterate 4 (with_reducible refine wk ?_)
     iterate 2 (with_reducible refine wv (.bool false) ?_)
     try simp only [zP]
     refine wpList_nil ?_
     exact hjK18 _ _ _ _ _ _ _ _ _ _ _ _ _ _ _ _ _ _ _ _ _ _ _ _ _ _ _ _ _ _ _ _ _ _ false _ Zb1 Zv3 ee (by first | (simp only [hb8, hb10, hb12, hb14, hb21, hb22, hb23, hb24, hb25]; done) | (simp only [hb8, hb10, hb12, hb14, hb21, hb22, hb23, hb24, hb25]; rfl) | simp [hb8, hb10, hb12, hb14, hb21, hb22, hb23, hb24, hb25])
    have pb25 : x.sl ≤ 1000000 := of_decide_eq_true hb25
    with_reducible
     refine wv (.pointer (some ⟨g2, 14, none⟩)) ?_
     refine wl (.slice x.D x.dt.length x.dc) ⟨g2, 14, none⟩ (rowCell Zb1 (14) rfl) Tryz.underlying34 ?_
     refine wv (.int .i64 ((x.dt.length : Int))) ?_
    try simp only [zP]
    obtain ⟨b26, hb26⟩ : ∃ d_ : Bool, (decide ((x.dt.length : Int) ≤ 59900)) = d_ := ⟨_, rfl⟩
    with_reducible refine wb (.bool b26) (.int .i64 ((x.dt.length : Int))) (.int .i64 59900) 3 (run_leqI hb26) ?_
    iterate 2 (with_reducible refine wv (.bool b26) ?_)
    try simp only [zP]
    refine wpList_nil ?_
    exact hjK18 _ _ _ _ _ _ _ _ _ _ _ _ _ _ _ _ _ _ _ _ _ _ _ _ _ _ _ _ _ _ _ _ _ _ b26 _ Zb1 Zv3 ee (by first | (simp only [hb8, hb10, hb12, hb14, hb21, hb22, hb23, hb24, hb25, hb26]; done) | (simp only [hb8, hb10, hb12, hb14, hb21, hb22, hb23, hb24, hb25, hb26]; rfl) | simp [hb8, hb10, hb12, hb14, hb21, hb22, hb23, hb24, hb25, hb26])
   have pb12 : x.kd = 3 := of_decide_eq_true hb12
   have eb12 : x.kd = 3 := of_decide_eq_true hb12
   refine wp_cond_true (by kernel_rfl) ?_
   refine wp_region_lit ?_
   with_reducible
    refine wv (.pointer (some ⟨g2, 3, none⟩)) ?_
    refine wl (.int .i64 x.sl) ⟨g2, 3, none⟩ (rowCell Zb1 (3) rfl) Tryz.underlying3 ?_
    refine wv (.pointer (some ⟨g2, 4, none⟩)) ?_
    refine wg (g2) (4) (x.c.cells) (rowMid Zb1 (4) (partOf 4 (by kernel_rfl))) Tryz.underlying33 ?_
    refine wv (.agg (({ Rc.zero with kd := 3, sl := x.sl, c := x.c } : Rc).cells).toArray) ?_
   try simp only [zP]
   refine wpList_store_row rfl 36 _ _ rfl (g4) (({ Rc.zero with kd := 3, sl := x.sl, c := x.c } : Rc).cells).toArray rfl rfl 36 _ Zv3 sizeRc (by rfl) (Rc.one _) ?_
   have N_ := setRow_heap z2 (g4) _ (({ Rc.zero with kd := 3, sl := x.sl, c := x.c } : Rc).cells).toArray _ _ Zv3
   have ee := belowSet (cs := (({ Rc.zero with kd := 3, sl := x.sl, c := x.c } : Rc).cells).toArray) ee Zv3 (by omega)
   have Zb1 := hpR Zb1 (g' := g4) (by omega) (({ Rc.zero with kd := 3, sl := x.sl, c := x.c } : Rc).cells).toArray
   clear Zv3
   have Zv3 := N_
   clear N_
   obtain ⟨z3, hz_⟩ : ∃ z_ : World, z_ = z2.setRow (g4) (({ Rc.zero with kd := 3, sl := x.sl, c := x.c } : Rc).cells).toArray := ⟨_, rfl⟩
   rw [← hz_] at Zb1 Zv3 ee ⊢
   clear hz_
   try simp only [zP]
   refine wpList_nil ?_
   refine inBlock_normal ?_
   refine hK5 _ _ ?_
   have hy : x.only = ({ Rc.zero with kd := 3, sl := x.sl, c := x.c } : Rc) := by unfold T.Rc.only; simp [pb8, pb10, pb12]
   refine wp_seq_k fun K27 hK27 => ?_
   have hjK27 : ∀ (u34 u35 u36 u37 u38 u39 u40 u41 u42 u43 u44 u45 u46 u47 u48 u49 u50 u51 u52 u53 u54 u55 u56 u57 u58 u59 u60 u61 u62 u63 u64 u65 u66 u67 : Value) (b29 : Bool) (zc27 : World), zc27.heap[g2]? = some (.cells (x.cells).toArray 36 (0, 0)) → zc27.heap[g4]? = some (.cells (({ Rc.zero with kd := 3, sl := x.sl, c := x.c } : Rc).cells).toArray 36 (0, 0)) → Below w.heap.size w zc27 → ((((((decide (3 > 0) && T.Rc.same x ({ Rc.zero with kd := 3, sl := x.sl, c := x.c } : Rc)) && B.formed x.bn) && x.c.formed) && decide (x.sl ≥ 0)) && decide (x.sl ≤ 1000000)) && decide ((x.dt.length : Int) ≤ 59900)) = b29 → K27 ⟨#[.agg (x.cells).toArray, .pointer (some ⟨g2, 0, none⟩), .bool b29, .pointer (some ⟨g4, 0, none⟩), .pointer (some ⟨g2, 0, none⟩), .int .i64 x.kd, .bool false, .bool false, undef, undef, undef, .bool false, .bool false, undef, undef, undef, undef, undef, undef, undef, .bool true, .bool true, .pointer (some ⟨g2, 3, none⟩), .int .i64 x.sl, .pointer (some ⟨g2, 4, none⟩), .agg (x.c.cells).toArray, .agg (({ Rc.zero with kd := 3, sl := x.sl, c := x.c } : Rc).cells).toArray, undef, undef, undef, undef, undef, undef, undef, u34, u35, u36, u37, u38, u39, u40, u41, u42, u43, u44, u45, u46, u47, u48, u49, u50, u51, u52, u53, u54, u55, u56, u57, u58, u59, u60, u61, u62, u63, u64, u65, u66, u67], []⟩ zc27 := by
    clear Zb1 Zv3 ee
    intro u34 u35 u36 u37 u38 u39 u40 u41 u42 u43 u44 u45 u46 u47 u48 u49 u50 u51 u52 u53 u54 u55 u56 u57 u58 u59 u60 u61 u62 u63 u64 u65 u66 u67 b29 zc27 Zb1 Zv3 ee hb29
    refine hK27 _ _ ?_
    refine wp_ret ?_
    cases b29
    ·exact bodyPost_ret (v := .bool false) (by kernel_rfl) rfl ⟨congrArg (fun b => Ending.returned (.bool b)) (show false = x.formed from by unfold T.Rc.formed; rw [hy]; first | exact hb29.symm | (simp [hb29, Rc.zero]; done)), ee⟩
    exact bodyPost_ret (v := .bool true) (by kernel_rfl) rfl ⟨congrArg (fun b => Ending.returned (.bool b)) (show true = x.formed from by unfold T.Rc.formed; rw [hy]; first | exact hb29.symm | (simp [hb29, Rc.zero]; done)), ee⟩
   refine wp_region_lit ?_
   with_reducible
    refine wv (.pointer (some ⟨g4, 0, none⟩)) ?_
    refine wl (.int .i64 3) ⟨g4, 0, none⟩ (rowCell Zv3 (0) rfl) Tryz.underlying3 ?_
    refine wb (.bool true) (.int .i64 3) (.int .i64 0) 3 (run_gtrI (show (decide (3 > 0)) = true from by decide)) ?_
    refine wv (.bool true) ?_
    refine wg (g2) (0) (x.cells) (rowAt Zb1) Tryz.underlying36 ?_
    refine wg (g4) (0) (({ Rc.zero with kd := 3, sl := x.sl, c := x.c } : Rc).cells) (rowAt Zv3) Tryz.underlying36 ?_
    try simp only [zP]
    refine wc 15 #[.agg (x.cells).toArray, .agg (({ Rc.zero with kd := 3, sl := x.sl, c := x.c } : Rc).cells).toArray] (wsame_any x ({ Rc.zero with kd := 3, sl := x.sl, c := x.c } : Rc) z3 B0 (Nat.le_trans hB ee.size) (ok.below ee hB) (by rw [← hy]; exact okOnly (ok.below ee hB))) ?_
   rintro e z4 ⟨rfl, t⟩
   refine ⟨_, rfl, ?_⟩
   have Zb1 := hpB Zb1 t
   have Zv3 := hpB Zv3 t
   have ee := ee.trans (t.mono ee.size)
   clear t
   generalize hb30 : T.Rc.same x ({ Rc.zero with kd := 3, sl := x.sl, c := x.c } : Rc) = b30
   try simp only [zP]
   iterate 2 (with_reducible refine wv (.bool b30) ?_)
   try simp only [zP]
   cases b30
   ·with_reducible refine wk ?_
    try simp only [zP]
    with_reducible
     iterate 4 ((refine wk ?_);(refine wk ?_);(refine wv (.bool false) ?_);(refine wv (.bool false) ?_);(refine wk ?_))
    iterate 3 (with_reducible refine wk ?_)
    iterate 2 (with_reducible refine wv (.bool false) ?_)
    try simp only [zP]
    refine wpList_nil ?_
    exact hjK27 _ _ _ _ _ _ _ _ _ _ _ _ _ _ _ _ _ _ _ _ _ _ _ _ _ _ _ _ _ _ _ _ _ _ false _ Zb1 Zv3 ee (by first | (simp only [hb8, hb10, hb12, hb30]; done) | (simp only [hb8, hb10, hb12, hb30]; rfl) | simp [hb8, hb10, hb12, hb30])
   with_reducible
    refine wv (.pointer (some ⟨g2, 1, none⟩)) ?_
    refine wg (g2) (1) ([.int .u32 (x.br : Int), .int .i64 x.bn]) (rowMid Zb1 (1) (partOf 1 (by kernel_rfl))) Tryz.underlying24 ?_
    try simp only [zP]
    refine wc 47 #[.agg ([.int .u32 (x.br : Int), .int .i64 x.bn]).toArray] (bformed_any x.br x.bn z4) ?_
   rintro e z5 ⟨rfl, t⟩
   refine ⟨_, rfl, ?_⟩
   have Zb1 := hpB Zb1 t
   have Zv3 := hpB Zv3 t
   have ee := ee.trans (t.mono ee.size)
   clear t
   generalize hb31 : B.formed x.bn = b31
   try simp only [zP]
   iterate 2 (with_reducible refine wv (.bool b31) ?_)
   try simp only [zP]
   cases b31
   ·with_reducible refine wk ?_
    try simp only [zP]
    with_reducible
     iterate 3 ((refine wk ?_);(refine wk ?_);(refine wv (.bool false) ?_);(refine wv (.bool false) ?_);(refine wk ?_))
    iterate 3 (with_reducible refine wk ?_)
    iterate 2 (with_reducible refine wv (.bool false) ?_)
    try simp only [zP]
    refine wpList_nil ?_
    exact hjK27 _ _ _ _ _ _ _ _ _ _ _ _ _ _ _ _ _ _ _ _ _ _ _ _ _ _ _ _ _ _ _ _ _ _ false _ Zb1 Zv3 ee (by first | (simp only [hb8, hb10, hb12, hb30, hb31]; done) | (simp only [hb8, hb10, hb12, hb30, hb31]; rfl) | simp [hb8, hb10, hb12, hb30, hb31])
   with_reducible
    refine wv (.pointer (some ⟨g2, 4, none⟩)) ?_
    refine wg (g2) (4) (x.c.cells) (rowMid Zb1 (4) (partOf 4 (by kernel_rfl))) Tryz.underlying33 ?_
    try simp only [zP]
    refine wc 48 #[.agg (x.c.cells).toArray] (cfm x.c z5 B0 (Nat.le_trans hB ee.size) (ok.c.below ee hB) (hT.below ee)) ?_
   rintro e z6 ⟨rfl, t⟩
   refine ⟨_, rfl, ?_⟩
   have Zb1 := hpB Zb1 t
   have Zv3 := hpB Zv3 t
   have ee := ee.trans (t.mono ee.size)
   clear t
   generalize hb32 : x.c.formed = b32
   try simp only [zP]
   iterate 2 (with_reducible refine wv (.bool b32) ?_)
   try simp only [zP]
   cases b32
   ·with_reducible refine wk ?_
    try simp only [zP]
    with_reducible
     iterate 2 ((refine wk ?_);(refine wk ?_);(refine wv (.bool false) ?_);(refine wv (.bool false) ?_);(refine wk ?_))
    iterate 3 (with_reducible refine wk ?_)
    iterate 2 (with_reducible refine wv (.bool false) ?_)
    try simp only [zP]
    refine wpList_nil ?_
    exact hjK27 _ _ _ _ _ _ _ _ _ _ _ _ _ _ _ _ _ _ _ _ _ _ _ _ _ _ _ _ _ _ _ _ _ _ false _ Zb1 Zv3 ee (by first | (simp only [hb8, hb10, hb12, hb30, hb31, hb32]; done) | (simp only [hb8, hb10, hb12, hb30, hb31, hb32]; rfl) | simp [hb8, hb10, hb12, hb30, hb31, hb32])
   with_reducible
    refine wv (.pointer (some ⟨g2, 3, none⟩)) ?_
    refine wl (.int .i64 x.sl) ⟨g2, 3, none⟩ (rowCell Zb1 (3) rfl) Tryz.underlying3 ?_
   try simp only [zP]
   obtain ⟨b33, hb33⟩ : ∃ d_ : Bool, (decide (x.sl ≥ 0)) = d_ := ⟨_, rfl⟩
   with_reducible refine wb (.bool b33) (.int .i64 x.sl) (.int .i64 0) 3 (run_geqI hb33) ?_
   iterate 2 (with_reducible refine wv (.bool b33) ?_)
   try simp only [zP]
   cases b33
   ·have pb33 : ¬ (x.sl ≥ 0) := of_decide_eq_false hb33
    iterate 3 (with_reducible refine wk ?_)
    iterate 2 (with_reducible refine wv (.bool false) ?_)
    iterate 4 (with_reducible refine wk ?_)
    iterate 2 (with_reducible refine wv (.bool false) ?_)
    try simp only [zP]
    refine wpList_nil ?_
    exact hjK27 _ _ _ _ _ _ _ _ _ _ _ _ _ _ _ _ _ _ _ _ _ _ _ _ _ _ _ _ _ _ _ _ _ _ false _ Zb1 Zv3 ee (by first | (simp only [hb8, hb10, hb12, hb30, hb31, hb32, hb33]; done) | (simp only [hb8, hb10, hb12, hb30, hb31, hb32, hb33]; rfl) | simp [hb8, hb10, hb12, hb30, hb31, hb32, hb33])
   have pb33 : x.sl ≥ 0 := of_decide_eq_true hb33
   with_reducible
    refine wv (.pointer (some ⟨g2, 3, none⟩)) ?_
    refine wl (.int .i64 x.sl) ⟨g2, 3, none⟩ (rowCell Zb1 (3) rfl) Tryz.underlying3 ?_
   try simp only [zP]
   obtain ⟨b34, hb34⟩ : ∃ d_ : Bool, (decide (x.sl ≤ 1000000)) = d_ := ⟨_, rfl⟩
   with_reducible refine wb (.bool b34) (.int .i64 x.sl) (.int .i64 1000000) 3 (run_leqI hb34) ?_
   iterate 2 (with_reducible refine wv (.bool b34) ?_)
   try simp only [zP]
   cases b34
   ·have pb34 : ¬ (x.sl ≤ 1000000) := of_decide_eq_false hb34
    iterate 4 (with_reducible refine wk ?_)
    iterate 2 (with_reducible refine wv (.bool false) ?_)
    try simp only [zP]
    refine wpList_nil ?_
    exact hjK27 _ _ _ _ _ _ _ _ _ _ _ _ _ _ _ _ _ _ _ _ _ _ _ _ _ _ _ _ _ _ _ _ _ _ false _ Zb1 Zv3 ee (by first | (simp only [hb8, hb10, hb12, hb30, hb31, hb32, hb33, hb34]; done) | (simp only [hb8, hb10, hb12, hb30, hb31, hb32, hb33, hb34]; rfl) | simp [hb8, hb10, hb12, hb30, hb31, hb32, hb33, hb34])
   have pb34 : x.sl ≤ 1000000 := of_decide_eq_true hb34
   with_reducible
    refine wv (.pointer (some ⟨g2, 14, none⟩)) ?_
    refine wl (.slice x.D x.dt.length x.dc) ⟨g2, 14, none⟩ (rowCell Zb1 (14) rfl) Tryz.underlying34 ?_
    refine wv (.int .i64 ((x.dt.length : Int))) ?_
   try simp only [zP]
   obtain ⟨b35, hb35⟩ : ∃ d_ : Bool, (decide ((x.dt.length : Int) ≤ 59900)) = d_ := ⟨_, rfl⟩
   with_reducible refine wb (.bool b35) (.int .i64 ((x.dt.length : Int))) (.int .i64 59900) 3 (run_leqI hb35) ?_
   iterate 2 (with_reducible refine wv (.bool b35) ?_)
   try simp only [zP]
   refine wpList_nil ?_
   exact hjK27 _ _ _ _ _ _ _ _ _ _ _ _ _ _ _ _ _ _ _ _ _ _ _ _ _ _ _ _ _ _ _ _ _ _ b35 _ Zb1 Zv3 ee (by first | (simp only [hb8, hb10, hb12, hb30, hb31, hb32, hb33, hb34, hb35]; done) | (simp only [hb8, hb10, hb12, hb30, hb31, hb32, hb33, hb34, hb35]; rfl) | simp [hb8, hb10, hb12, hb30, hb31, hb32, hb33, hb34, hb35])
  have pb10 : x.kd = 2 := of_decide_eq_true hb10
  have eb10 : x.kd = 2 := of_decide_eq_true hb10
  refine wp_cond_true (by kernel_rfl) ?_
  refine wp_region_lit ?_
  with_reducible
   refine wv (.pointer (some ⟨g2, 1, none⟩)) ?_
   refine wg (g2) (1) ([.int .u32 (x.br : Int), .int .i64 x.bn]) (rowMid Zb1 (1) (partOf 1 (by kernel_rfl))) Tryz.underlying24 ?_
   refine wv (.pointer (some ⟨g2, 3, none⟩)) ?_
   refine wl (.int .i64 x.sl) ⟨g2, 3, none⟩ (rowCell Zb1 (3) rfl) Tryz.underlying3 ?_
   refine wv (.pointer (some ⟨g2, 4, none⟩)) ?_
   refine wg (g2) (4) (x.c.cells) (rowMid Zb1 (4) (partOf 4 (by kernel_rfl))) Tryz.underlying33 ?_
   refine wv (.agg (({ Rc.zero with kd := 2, br := x.br, bn := x.bn, sl := x.sl, c := x.c } : Rc).cells).toArray) ?_
  try simp only [zP]
  refine wpList_store_row rfl 36 _ _ rfl (g4) (({ Rc.zero with kd := 2, br := x.br, bn := x.bn, sl := x.sl, c := x.c } : Rc).cells).toArray rfl rfl 36 _ Zv3 sizeRc (by rfl) (Rc.one _) ?_
  have N_ := setRow_heap z2 (g4) _ (({ Rc.zero with kd := 2, br := x.br, bn := x.bn, sl := x.sl, c := x.c } : Rc).cells).toArray _ _ Zv3
  have ee := belowSet (cs := (({ Rc.zero with kd := 2, br := x.br, bn := x.bn, sl := x.sl, c := x.c } : Rc).cells).toArray) ee Zv3 (by omega)
  have Zb1 := hpR Zb1 (g' := g4) (by omega) (({ Rc.zero with kd := 2, br := x.br, bn := x.bn, sl := x.sl, c := x.c } : Rc).cells).toArray
  clear Zv3
  have Zv3 := N_
  clear N_
  obtain ⟨z3, hz_⟩ : ∃ z_ : World, z_ = z2.setRow (g4) (({ Rc.zero with kd := 2, br := x.br, bn := x.bn, sl := x.sl, c := x.c } : Rc).cells).toArray := ⟨_, rfl⟩
  rw [← hz_] at Zb1 Zv3 ee ⊢
  clear hz_
  try simp only [zP]
  refine wpList_nil ?_
  refine inBlock_normal ?_
  refine hK5 _ _ ?_
  have hy : x.only = ({ Rc.zero with kd := 2, br := x.br, bn := x.bn, sl := x.sl, c := x.c } : Rc) := by unfold T.Rc.only; simp [pb8, pb10]
  refine wp_seq_k fun K36 hK36 => ?_
  have hjK36 : ∀ (u34 u35 u36 u37 u38 u39 u40 u41 u42 u43 u44 u45 u46 u47 u48 u49 u50 u51 u52 u53 u54 u55 u56 u57 u58 u59 u60 u61 u62 u63 u64 u65 u66 u67 : Value) (b38 : Bool) (zc36 : World), zc36.heap[g2]? = some (.cells (x.cells).toArray 36 (0, 0)) → zc36.heap[g4]? = some (.cells (({ Rc.zero with kd := 2, br := x.br, bn := x.bn, sl := x.sl, c := x.c } : Rc).cells).toArray 36 (0, 0)) → Below w.heap.size w zc36 → ((((((decide (2 > 0) && T.Rc.same x ({ Rc.zero with kd := 2, br := x.br, bn := x.bn, sl := x.sl, c := x.c } : Rc)) && B.formed x.bn) && x.c.formed) && decide (x.sl ≥ 0)) && decide (x.sl ≤ 1000000)) && decide ((x.dt.length : Int) ≤ 59900)) = b38 → K36 ⟨#[.agg (x.cells).toArray, .pointer (some ⟨g2, 0, none⟩), .bool b38, .pointer (some ⟨g4, 0, none⟩), .pointer (some ⟨g2, 0, none⟩), .int .i64 x.kd, .bool false, .bool false, undef, undef, undef, .bool true, .bool true, .pointer (some ⟨g2, 1, none⟩), .agg ([.int .u32 (x.br : Int), .int .i64 x.bn]).toArray, .pointer (some ⟨g2, 3, none⟩), .int .i64 x.sl, .pointer (some ⟨g2, 4, none⟩), .agg (x.c.cells).toArray, .agg (({ Rc.zero with kd := 2, br := x.br, bn := x.bn, sl := x.sl, c := x.c } : Rc).cells).toArray, undef, undef, undef, undef, undef, undef, undef, undef, undef, undef, undef, undef, undef, undef, u34, u35, u36, u37, u38, u39, u40, u41, u42, u43, u44, u45, u46, u47, u48, u49, u50, u51, u52, u53, u54, u55, u56, u57, u58, u59, u60, u61, u62, u63, u64, u65, u66, u67], []⟩ zc36 := by
   clear Zb1 Zv3 ee
   intro u34 u35 u36 u37 u38 u39 u40 u41 u42 u43 u44 u45 u46 u47 u48 u49 u50 u51 u52 u53 u54 u55 u56 u57 u58 u59 u60 u61 u62 u63 u64 u65 u66 u67 b38 zc36 Zb1 Zv3 ee hb38
   refine hK36 _ _ ?_
   refine wp_ret ?_
   cases b38
   ·exact bodyPost_ret (v := .bool false) (by kernel_rfl) rfl ⟨congrArg (fun b => Ending.returned (.bool b)) (show false = x.formed from by unfold T.Rc.formed; rw [hy]; first | exact hb38.symm | (simp [hb38, Rc.zero]; done)), ee⟩
   exact bodyPost_ret (v := .bool true) (by kernel_rfl) rfl ⟨congrArg (fun b => Ending.returned (.bool b)) (show true = x.formed from by unfold T.Rc.formed; rw [hy]; first | exact hb38.symm | (simp [hb38, Rc.zero]; done)), ee⟩
  refine wp_region_lit ?_
  with_reducible
   refine wv (.pointer (some ⟨g4, 0, none⟩)) ?_
   refine wl (.int .i64 2) ⟨g4, 0, none⟩ (rowCell Zv3 (0) rfl) Tryz.underlying3 ?_
   refine wb (.bool true) (.int .i64 2) (.int .i64 0) 3 (run_gtrI (show (decide (2 > 0)) = true from by decide)) ?_
   refine wv (.bool true) ?_
   refine wg (g2) (0) (x.cells) (rowAt Zb1) Tryz.underlying36 ?_
   refine wg (g4) (0) (({ Rc.zero with kd := 2, br := x.br, bn := x.bn, sl := x.sl, c := x.c } : Rc).cells) (rowAt Zv3) Tryz.underlying36 ?_
   try simp only [zP]
   refine wc 15 #[.agg (x.cells).toArray, .agg (({ Rc.zero with kd := 2, br := x.br, bn := x.bn, sl := x.sl, c := x.c } : Rc).cells).toArray] (wsame_any x ({ Rc.zero with kd := 2, br := x.br, bn := x.bn, sl := x.sl, c := x.c } : Rc) z3 B0 (Nat.le_trans hB ee.size) (ok.below ee hB) (by rw [← hy]; exact okOnly (ok.below ee hB))) ?_
  rintro e z4 ⟨rfl, t⟩
  refine ⟨_, rfl, ?_⟩
  have Zb1 := hpB Zb1 t
  have Zv3 := hpB Zv3 t
  have ee := ee.trans (t.mono ee.size)
  clear t
  generalize hb39 : T.Rc.same x ({ Rc.zero with kd := 2, br := x.br, bn := x.bn, sl := x.sl, c := x.c } : Rc) = b39
  try simp only [zP]
  iterate 2 (with_reducible refine wv (.bool b39) ?_)
  try simp only [zP]
  cases b39
  ·with_reducible refine wk ?_
   try simp only [zP]
   with_reducible
    iterate 4 ((refine wk ?_);(refine wk ?_);(refine wv (.bool false) ?_);(refine wv (.bool false) ?_);(refine wk ?_))
   iterate 3 (with_reducible refine wk ?_)
   iterate 2 (with_reducible refine wv (.bool false) ?_)
   try simp only [zP]
   refine wpList_nil ?_
   exact hjK36 _ _ _ _ _ _ _ _ _ _ _ _ _ _ _ _ _ _ _ _ _ _ _ _ _ _ _ _ _ _ _ _ _ _ false _ Zb1 Zv3 ee (by first | (simp only [hb8, hb10, hb39]; done) | (simp only [hb8, hb10, hb39]; rfl) | simp [hb8, hb10, hb39])
  with_reducible
   refine wv (.pointer (some ⟨g2, 1, none⟩)) ?_
   refine wg (g2) (1) ([.int .u32 (x.br : Int), .int .i64 x.bn]) (rowMid Zb1 (1) (partOf 1 (by kernel_rfl))) Tryz.underlying24 ?_
   try simp only [zP]
   refine wc 47 #[.agg ([.int .u32 (x.br : Int), .int .i64 x.bn]).toArray] (bformed_any x.br x.bn z4) ?_
  rintro e z5 ⟨rfl, t⟩
  refine ⟨_, rfl, ?_⟩
  have Zb1 := hpB Zb1 t
  have Zv3 := hpB Zv3 t
  have ee := ee.trans (t.mono ee.size)
  clear t
  generalize hb40 : B.formed x.bn = b40
  try simp only [zP]
  iterate 2 (with_reducible refine wv (.bool b40) ?_)
  try simp only [zP]
  cases b40
  ·with_reducible refine wk ?_
   try simp only [zP]
   with_reducible
    iterate 3 ((refine wk ?_);(refine wk ?_);(refine wv (.bool false) ?_);(refine wv (.bool false) ?_);(refine wk ?_))
   iterate 3 (with_reducible refine wk ?_)
   iterate 2 (with_reducible refine wv (.bool false) ?_)
   try simp only [zP]
   refine wpList_nil ?_
   exact hjK36 _ _ _ _ _ _ _ _ _ _ _ _ _ _ _ _ _ _ _ _ _ _ _ _ _ _ _ _ _ _ _ _ _ _ false _ Zb1 Zv3 ee (by first | (simp only [hb8, hb10, hb39, hb40]; done) | (simp only [hb8, hb10, hb39, hb40]; rfl) | simp [hb8, hb10, hb39, hb40])
  with_reducible
   refine wv (.pointer (some ⟨g2, 4, none⟩)) ?_
   refine wg (g2) (4) (x.c.cells) (rowMid Zb1 (4) (partOf 4 (by kernel_rfl))) Tryz.underlying33 ?_
   try simp only [zP]
   refine wc 48 #[.agg (x.c.cells).toArray] (cfm x.c z5 B0 (Nat.le_trans hB ee.size) (ok.c.below ee hB) (hT.below ee)) ?_
  rintro e z6 ⟨rfl, t⟩
  refine ⟨_, rfl, ?_⟩
  have Zb1 := hpB Zb1 t
  have Zv3 := hpB Zv3 t
  have ee := ee.trans (t.mono ee.size)
  clear t
  generalize hb41 : x.c.formed = b41
  try simp only [zP]
  iterate 2 (with_reducible refine wv (.bool b41) ?_)
  try simp only [zP]
  cases b41
  ·with_reducible refine wk ?_
   try simp only [zP]
   with_reducible
    iterate 2 ((refine wk ?_);(refine wk ?_);(refine wv (.bool false) ?_);(refine wv (.bool false) ?_);(refine wk ?_))
   iterate 3 (with_reducible refine wk ?_)
   iterate 2 (with_reducible refine wv (.bool false) ?_)
   try simp only [zP]
   refine wpList_nil ?_
   exact hjK36 _ _ _ _ _ _ _ _ _ _ _ _ _ _ _ _ _ _ _ _ _ _ _ _ _ _ _ _ _ _ _ _ _ _ false _ Zb1 Zv3 ee (by first | (simp only [hb8, hb10, hb39, hb40, hb41]; done) | (simp only [hb8, hb10, hb39, hb40, hb41]; rfl) | simp [hb8, hb10, hb39, hb40, hb41])
  with_reducible
   refine wv (.pointer (some ⟨g2, 3, none⟩)) ?_
   refine wl (.int .i64 x.sl) ⟨g2, 3, none⟩ (rowCell Zb1 (3) rfl) Tryz.underlying3 ?_
  try simp only [zP]
  obtain ⟨b42, hb42⟩ : ∃ d_ : Bool, (decide (x.sl ≥ 0)) = d_ := ⟨_, rfl⟩
  with_reducible refine wb (.bool b42) (.int .i64 x.sl) (.int .i64 0) 3 (run_geqI hb42) ?_
  iterate 2 (with_reducible refine wv (.bool b42) ?_)
  try simp only [zP]
  cases b42
  ·have pb42 : ¬ (x.sl ≥ 0) := of_decide_eq_false hb42
   iterate 3 (with_reducible refine wk ?_)
   iterate 2 (with_reducible refine wv (.bool false) ?_)
   iterate 4 (with_reducible refine wk ?_)
   iterate 2 (with_reducible refine wv (.bool false) ?_)
   try simp only [zP]
   refine wpList_nil ?_
   exact hjK36 _ _ _ _ _ _ _ _ _ _ _ _ _ _ _ _ _ _ _ _ _ _ _ _ _ _ _ _ _ _ _ _ _ _ false _ Zb1 Zv3 ee (by first | (simp only [hb8, hb10, hb39, hb40, hb41, hb42]; done) | (simp only [hb8, hb10, hb39, hb40, hb41, hb42]; rfl) | simp [hb8, hb10, hb39, hb40, hb41, hb42])
  have pb42 : x.sl ≥ 0 := of_decide_eq_true hb42
  with_reducible
   refine wv (.pointer (some ⟨g2, 3, none⟩)) ?_
   refine wl (.int .i64 x.sl) ⟨g2, 3, none⟩ (rowCell Zb1 (3) rfl) Tryz.underlying3 ?_
  try simp only [zP]
  obtain ⟨b43, hb43⟩ : ∃ d_ : Bool, (decide (x.sl ≤ 1000000)) = d_ := ⟨_, rfl⟩
  with_reducible refine wb (.bool b43) (.int .i64 x.sl) (.int .i64 1000000) 3 (run_leqI hb43) ?_
  iterate 2 (with_reducible refine wv (.bool b43) ?_)
  try simp only [zP]
  cases b43
  ·have pb43 : ¬ (x.sl ≤ 1000000) := of_decide_eq_false hb43
   iterate 4 (with_reducible refine wk ?_)
   iterate 2 (with_reducible refine wv (.bool false) ?_)
   try simp only [zP]
   refine wpList_nil ?_
   exact hjK36 _ _ _ _ _ _ _ _ _ _ _ _ _ _ _ _ _ _ _ _ _ _ _ _ _ _ _ _ _ _ _ _ _ _ false _ Zb1 Zv3 ee (by first | (simp only [hb8, hb10, hb39, hb40, hb41, hb42, hb43]; done) | (simp only [hb8, hb10, hb39, hb40, hb41, hb42, hb43]; rfl) | simp [hb8, hb10, hb39, hb40, hb41, hb42, hb43])
  have pb43 : x.sl ≤ 1000000 := of_decide_eq_true hb43
  with_reducible
   refine wv (.pointer (some ⟨g2, 14, none⟩)) ?_
   refine wl (.slice x.D x.dt.length x.dc) ⟨g2, 14, none⟩ (rowCell Zb1 (14) rfl) Tryz.underlying34 ?_
   refine wv (.int .i64 ((x.dt.length : Int))) ?_
  try simp only [zP]
  obtain ⟨b44, hb44⟩ : ∃ d_ : Bool, (decide ((x.dt.length : Int) ≤ 59900)) = d_ := ⟨_, rfl⟩
  with_reducible refine wb (.bool b44) (.int .i64 ((x.dt.length : Int))) (.int .i64 59900) 3 (run_leqI hb44) ?_
  iterate 2 (with_reducible refine wv (.bool b44) ?_)
  try simp only [zP]
  refine wpList_nil ?_
  exact hjK36 _ _ _ _ _ _ _ _ _ _ _ _ _ _ _ _ _ _ _ _ _ _ _ _ _ _ _ _ _ _ _ _ _ _ b44 _ Zb1 Zv3 ee (by first | (simp only [hb8, hb10, hb39, hb40, hb41, hb42, hb43, hb44]; done) | (simp only [hb8, hb10, hb39, hb40, hb41, hb42, hb43, hb44]; rfl) | simp [hb8, hb10, hb39, hb40, hb41, hb42, hb43, hb44])
 have pb8 : x.kd = 1 := of_decide_eq_true hb8
 have eb8 : x.kd = 1 := of_decide_eq_true hb8
 refine wp_cond_true (by kernel_rfl) ?_
 refine wp_region_lit ?_
 with_reducible
  refine wv (.pointer (some ⟨g2, 1, none⟩)) ?_
  refine wg (g2) (1) ([.int .u32 (x.br : Int), .int .i64 x.bn]) (rowMid Zb1 (1) (partOf 1 (by kernel_rfl))) Tryz.underlying24 ?_
  refine wv (.agg (({ Rc.zero with kd := 1, br := x.br, bn := x.bn } : Rc).cells).toArray) ?_
 try simp only [zP]
 refine wpList_store_row rfl 36 _ _ rfl (g4) (({ Rc.zero with kd := 1, br := x.br, bn := x.bn } : Rc).cells).toArray rfl rfl 36 _ Zv3 sizeRc (by rfl) (Rc.one _) ?_
 have N_ := setRow_heap z2 (g4) _ (({ Rc.zero with kd := 1, br := x.br, bn := x.bn } : Rc).cells).toArray _ _ Zv3
 have ee := belowSet (cs := (({ Rc.zero with kd := 1, br := x.br, bn := x.bn } : Rc).cells).toArray) ee Zv3 (by omega)
 have Zb1 := hpR Zb1 (g' := g4) (by omega) (({ Rc.zero with kd := 1, br := x.br, bn := x.bn } : Rc).cells).toArray
 clear Zv3
 have Zv3 := N_
 clear N_
 obtain ⟨z3, hz_⟩ : ∃ z_ : World, z_ = z2.setRow (g4) (({ Rc.zero with kd := 1, br := x.br, bn := x.bn } : Rc).cells).toArray := ⟨_, rfl⟩
 rw [← hz_] at Zb1 Zv3 ee ⊢
 clear hz_
 try simp only [zP]
 refine wpList_nil ?_
 refine inBlock_normal ?_
 refine hK5 _ _ ?_
 have hy : x.only = ({ Rc.zero with kd := 1, br := x.br, bn := x.bn } : Rc) := by unfold T.Rc.only; simp [pb8]
 refine wp_seq_k fun K45 hK45 => ?_
 have hjK45 : ∀ (u34 u35 u36 u37 u38 u39 u40 u41 u42 u43 u44 u45 u46 u47 u48 u49 u50 u51 u52 u53 u54 u55 u56 u57 u58 u59 u60 u61 u62 u63 u64 u65 u66 u67 : Value) (b47 : Bool) (zc45 : World), zc45.heap[g2]? = some (.cells (x.cells).toArray 36 (0, 0)) → zc45.heap[g4]? = some (.cells (({ Rc.zero with kd := 1, br := x.br, bn := x.bn } : Rc).cells).toArray 36 (0, 0)) → Below w.heap.size w zc45 → ((((((decide (1 > 0) && T.Rc.same x ({ Rc.zero with kd := 1, br := x.br, bn := x.bn } : Rc)) && B.formed x.bn) && x.c.formed) && decide (x.sl ≥ 0)) && decide (x.sl ≤ 1000000)) && decide ((x.dt.length : Int) ≤ 59900)) = b47 → K45 ⟨#[.agg (x.cells).toArray, .pointer (some ⟨g2, 0, none⟩), .bool b47, .pointer (some ⟨g4, 0, none⟩), .pointer (some ⟨g2, 0, none⟩), .int .i64 x.kd, .bool true, .bool true, .pointer (some ⟨g2, 1, none⟩), .agg ([.int .u32 (x.br : Int), .int .i64 x.bn]).toArray, .agg (({ Rc.zero with kd := 1, br := x.br, bn := x.bn } : Rc).cells).toArray, undef, undef, undef, undef, undef, undef, undef, undef, undef, undef, undef, undef, undef, undef, undef, undef, undef, undef, undef, undef, undef, undef, undef, u34, u35, u36, u37, u38, u39, u40, u41, u42, u43, u44, u45, u46, u47, u48, u49, u50, u51, u52, u53, u54, u55, u56, u57, u58, u59, u60, u61, u62, u63, u64, u65, u66, u67], []⟩ zc45 := by
  clear Zb1 Zv3 ee
  intro u34 u35 u36 u37 u38 u39 u40 u41 u42 u43 u44 u45 u46 u47 u48 u49 u50 u51 u52 u53 u54 u55 u56 u57 u58 u59 u60 u61 u62 u63 u64 u65 u66 u67 b47 zc45 Zb1 Zv3 ee hb47
  refine hK45 _ _ ?_
  refine wp_ret ?_
  cases b47
  ·exact bodyPost_ret (v := .bool false) (by kernel_rfl) rfl ⟨congrArg (fun b => Ending.returned (.bool b)) (show false = x.formed from by unfold T.Rc.formed; rw [hy]; first | exact hb47.symm | (simp [hb47, Rc.zero]; done)), ee⟩
  exact bodyPost_ret (v := .bool true) (by kernel_rfl) rfl ⟨congrArg (fun b => Ending.returned (.bool b)) (show true = x.formed from by unfold T.Rc.formed; rw [hy]; first | exact hb47.symm | (simp [hb47, Rc.zero]; done)), ee⟩
 refine wp_region_lit ?_
 with_reducible
  refine wv (.pointer (some ⟨g4, 0, none⟩)) ?_
  refine wl (.int .i64 1) ⟨g4, 0, none⟩ (rowCell Zv3 (0) rfl) Tryz.underlying3 ?_
  refine wb (.bool true) (.int .i64 1) (.int .i64 0) 3 (run_gtrI (show (decide (1 > 0)) = true from by decide)) ?_
  refine wv (.bool true) ?_
  refine wg (g2) (0) (x.cells) (rowAt Zb1) Tryz.underlying36 ?_
  refine wg (g4) (0) (({ Rc.zero with kd := 1, br := x.br, bn := x.bn } : Rc).cells) (rowAt Zv3) Tryz.underlying36 ?_
  try simp only [zP]
  refine wc 15 #[.agg (x.cells).toArray, .agg (({ Rc.zero with kd := 1, br := x.br, bn := x.bn } : Rc).cells).toArray] (wsame_any x ({ Rc.zero with kd := 1, br := x.br, bn := x.bn } : Rc) z3 B0 (Nat.le_trans hB ee.size) (ok.below ee hB) (by rw [← hy]; exact okOnly (ok.below ee hB))) ?_
 rintro e z4 ⟨rfl, t⟩
 refine ⟨_, rfl, ?_⟩
 have Zb1 := hpB Zb1 t
 have Zv3 := hpB Zv3 t
 have ee := ee.trans (t.mono ee.size)
 clear t
 generalize hb48 : T.Rc.same x ({ Rc.zero with kd := 1, br := x.br, bn := x.bn } : Rc) = b48
 try simp only [zP]
 iterate 2 (with_reducible refine wv (.bool b48) ?_)
 try simp only [zP]
 cases b48
 ·with_reducible refine wk ?_
  try simp only [zP]
  with_reducible
   iterate 4 ((refine wk ?_);(refine wk ?_);(refine wv (.bool false) ?_);(refine wv (.bool false) ?_);(refine wk ?_))
  iterate 3 (with_reducible refine wk ?_)
  iterate 2 (with_reducible refine wv (.bool false) ?_)
  try simp only [zP]
  refine wpList_nil ?_
  exact hjK45 _ _ _ _ _ _ _ _ _ _ _ _ _ _ _ _ _ _ _ _ _ _ _ _ _ _ _ _ _ _ _ _ _ _ false _ Zb1 Zv3 ee (by first | (simp only [hb8, hb48]; done) | (simp only [hb8, hb48]; rfl) | simp [hb8, hb48])
 with_reducible
  refine wv (.pointer (some ⟨g2, 1, none⟩)) ?_
  refine wg (g2) (1) ([.int .u32 (x.br : Int), .int .i64 x.bn]) (rowMid Zb1 (1) (partOf 1 (by kernel_rfl))) Tryz.underlying24 ?_
  try simp only [zP]
  refine wc 47 #[.agg ([.int .u32 (x.br : Int), .int .i64 x.bn]).toArray] (bformed_any x.br x.bn z4) ?_
 rintro e z5 ⟨rfl, t⟩
 refine ⟨_, rfl, ?_⟩
 have Zb1 := hpB Zb1 t
 have Zv3 := hpB Zv3 t
 have ee := ee.trans (t.mono ee.size)
 clear t
 generalize hb49 : B.formed x.bn = b49
 try simp only [zP]
 iterate 2 (with_reducible refine wv (.bool b49) ?_)
 try simp only [zP]
 cases b49
 ·with_reducible refine wk ?_
  try simp only [zP]
  with_reducible
   iterate 3 ((refine wk ?_);(refine wk ?_);(refine wv (.bool false) ?_);(refine wv (.bool false) ?_);(refine wk ?_))
  iterate 3 (with_reducible refine wk ?_)
  iterate 2 (with_reducible refine wv (.bool false) ?_)
  try simp only [zP]
  refine wpList_nil ?_
  exact hjK45 _ _ _ _ _ _ _ _ _ _ _ _ _ _ _ _ _ _ _ _ _ _ _ _ _ _ _ _ _ _ _ _ _ _ false _ Zb1 Zv3 ee (by first | (simp only [hb8, hb48, hb49]; done) | (simp only [hb8, hb48, hb49]; rfl) | simp [hb8, hb48, hb49])
 with_reducible
  refine wv (.pointer (some ⟨g2, 4, none⟩)) ?_
  refine wg (g2) (4) (x.c.cells) (rowMid Zb1 (4) (partOf 4 (by kernel_rfl))) Tryz.underlying33 ?_
  try simp only [zP]
  refine wc 48 #[.agg (x.c.cells).toArray] (cfm x.c z5 B0 (Nat.le_trans hB ee.size) (ok.c.below ee hB) (hT.below ee)) ?_
 rintro e z6 ⟨rfl, t⟩
 refine ⟨_, rfl, ?_⟩
 have Zb1 := hpB Zb1 t
 have Zv3 := hpB Zv3 t
 have ee := ee.trans (t.mono ee.size)
 clear t
 generalize hb50 : x.c.formed = b50
 try simp only [zP]
 iterate 2 (with_reducible refine wv (.bool b50) ?_)
 try simp only [zP]
 cases b50
 ·with_reducible refine wk ?_
  try simp only [zP]
  with_reducible
   iterate 2 ((refine wk ?_);(refine wk ?_);(refine wv (.bool false) ?_);(refine wv (.bool false) ?_);(refine wk ?_))
  iterate 3 (with_reducible refine wk ?_)
  iterate 2 (with_reducible refine wv (.bool false) ?_)
  try simp only [zP]
  refine wpList_nil ?_
  exact hjK45 _ _ _ _ _ _ _ _ _ _ _ _ _ _ _ _ _ _ _ _ _ _ _ _ _ _ _ _ _ _ _ _ _ _ false _ Zb1 Zv3 ee (by first | (simp only [hb8, hb48, hb49, hb50]; done) | (simp only [hb8, hb48, hb49, hb50]; rfl) | simp [hb8, hb48, hb49, hb50])
 with_reducible
  refine wv (.pointer (some ⟨g2, 3, none⟩)) ?_
  refine wl (.int .i64 x.sl) ⟨g2, 3, none⟩ (rowCell Zb1 (3) rfl) Tryz.underlying3 ?_
 try simp only [zP]
 obtain ⟨b51, hb51⟩ : ∃ d_ : Bool, (decide (x.sl ≥ 0)) = d_ := ⟨_, rfl⟩
 with_reducible refine wb (.bool b51) (.int .i64 x.sl) (.int .i64 0) 3 (run_geqI hb51) ?_
 iterate 2 (with_reducible refine wv (.bool b51) ?_)
 try simp only [zP]
 cases b51
 ·have pb51 : ¬ (x.sl ≥ 0) := of_decide_eq_false hb51
  iterate 3 (with_reducible refine wk ?_)
  iterate 2 (with_reducible refine wv (.bool false) ?_)
  iterate 4 (with_reducible refine wk ?_)
  iterate 2 (with_reducible refine wv (.bool false) ?_)
  try simp only [zP]
  refine wpList_nil ?_
  exact hjK45 _ _ _ _ _ _ _ _ _ _ _ _ _ _ _ _ _ _ _ _ _ _ _ _ _ _ _ _ _ _ _ _ _ _ false _ Zb1 Zv3 ee (by first | (simp only [hb8, hb48, hb49, hb50, hb51]; done) | (simp only [hb8, hb48, hb49, hb50, hb51]; rfl) | simp [hb8, hb48, hb49, hb50, hb51])
 have pb51 : x.sl ≥ 0 := of_decide_eq_true hb51
 with_reducible
  refine wv (.pointer (some ⟨g2, 3, none⟩)) ?_
  refine wl (.int .i64 x.sl) ⟨g2, 3, none⟩ (rowCell Zb1 (3) rfl) Tryz.underlying3 ?_
 try simp only [zP]
 obtain ⟨b52, hb52⟩ : ∃ d_ : Bool, (decide (x.sl ≤ 1000000)) = d_ := ⟨_, rfl⟩
 with_reducible refine wb (.bool b52) (.int .i64 x.sl) (.int .i64 1000000) 3 (run_leqI hb52) ?_
 iterate 2 (with_reducible refine wv (.bool b52) ?_)
 try simp only [zP]
 cases b52
 ·have pb52 : ¬ (x.sl ≤ 1000000) := of_decide_eq_false hb52
  iterate 4 (with_reducible refine wk ?_)
  iterate 2 (with_reducible refine wv (.bool false) ?_)
  try simp only [zP]
  refine wpList_nil ?_
  exact hjK45 _ _ _ _ _ _ _ _ _ _ _ _ _ _ _ _ _ _ _ _ _ _ _ _ _ _ _ _ _ _ _ _ _ _ false _ Zb1 Zv3 ee (by first | (simp only [hb8, hb48, hb49, hb50, hb51, hb52]; done) | (simp only [hb8, hb48, hb49, hb50, hb51, hb52]; rfl) | simp [hb8, hb48, hb49, hb50, hb51, hb52])
 have pb52 : x.sl ≤ 1000000 := of_decide_eq_true hb52
 with_reducible
  refine wv (.pointer (some ⟨g2, 14, none⟩)) ?_
  refine wl (.slice x.D x.dt.length x.dc) ⟨g2, 14, none⟩ (rowCell Zb1 (14) rfl) Tryz.underlying34 ?_
  refine wv (.int .i64 ((x.dt.length : Int))) ?_
 try simp only [zP]
 obtain ⟨b53, hb53⟩ : ∃ d_ : Bool, (decide ((x.dt.length : Int) ≤ 59900)) = d_ := ⟨_, rfl⟩
 with_reducible refine wb (.bool b53) (.int .i64 ((x.dt.length : Int))) (.int .i64 59900) 3 (run_leqI hb53) ?_
 iterate 2 (with_reducible refine wv (.bool b53) ?_)
 try simp only [zP]
 refine wpList_nil ?_
 exact hjK45 _ _ _ _ _ _ _ _ _ _ _ _ _ _ _ _ _ _ _ _ _ _ _ _ _ _ _ _ _ _ _ _ _ _ b53 _ Zb1 Zv3 ee (by first | (simp only [hb8, hb48, hb49, hb50, hb51, hb52, hb53]; done) | (simp only [hb8, hb48, hb49, hb50, hb51, hb52, hb53]; rfl) | simp [hb8, hb48, hb49, hb50, hb51, hb52, hb53])
end Go.Proofs.YtjofjpmhokjhnaaGreatDoor
