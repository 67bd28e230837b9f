import Derived.Test.YtjofjpmhokjhnaaGreatDoorWfM37
import Derived.Test.YtjofjpmhokjhnaaGreatDoorWfM6
set_option linter.unusedSimpArgs false
set_option linter.unusedVariables false
namespace Go.Proofs.YtjofjpmhokjhnaaGreatDoor
set_option maxRecDepth 20000
open Go.RowKit T
set_option maxHeartbeats 25600000 in
theorem wread_any (A : Option Addr) (cp : Nat) (l : List UInt8) (w : World) (hb : SlB w w.heap.size (.slice A l.length cp) l) (hl : l.length ≤ 100000000) (hT : Tabs w) :
 Calls Tryz.prog 11 #[.slice A l.length cp] w fun e w' => ReadN w l e w' ∧ Below w.heap.size w w' := by
 have ee : Below w.heap.size w w := Below.refl _ _
 go_enter Tryz.func11, Tryz.ntmps11
 refine wp_seq_k fun K1 hK1 => ?_
 refine wp_region_lit ?_
 with_reducible refine ww (.pointer (some ⟨w.heap.size, 0, none⟩)) (w.alloc (.cells #[.int .i64 0, .int .u32 0, .int .i64 0, .int .i64 0, .int .i64 0, .int .i64 0, .int .i64 0, .slice none 0 0, .slice none 0 0, .int .i64 0, .int .i64 0, .int .i64 0, .int .u64 0, .bool false, .slice none 0 0] 36)) ?_
 try simp only [zP]
 have sz_g2 := ee.size
 have sz_ := ee.size
 have ee := ee.alloc ee.size (.cells #[.int .i64 0, .int .u32 0, .int .i64 0, .int .i64 0, .int .i64 0, .int .i64 0, .int .i64 0, .slice none 0 0, .slice none 0 0, .int .i64 0, .int .i64 0, .int .i64 0, .int .u64 0, .bool false, .slice none 0 0] 36)
 have Zv2 := hpN w (.cells #[.int .i64 0, .int .u32 0, .int .i64 0, .int .i64 0, .int .i64 0, .int .i64 0, .int .i64 0, .slice none 0 0, .slice none 0 0, .int .i64 0, .int .i64 0, .int .i64 0, .int .u64 0, .bool false, .slice none 0 0] 36) rfl
 obtain ⟨z1, hz_⟩ : ∃ z_ : World, z_ = w.alloc (.cells #[.int .i64 0, .int .u32 0, .int .i64 0, .int .i64 0, .int .i64 0, .int .i64 0, .int .i64 0, .slice none 0 0, .slice none 0 0, .int .i64 0, .int .i64 0, .int .i64 0, .int .u64 0, .bool false, .slice none 0 0] 36) := ⟨_, rfl⟩
 rw [← hz_] at Zv2 ee ⊢
 clear hz_
 obtain ⟨g2, hg_g2⟩ : ∃ g_, g_ = w.heap.size := ⟨_, rfl⟩
 have hB_g2 : w.heap.size ≤ g2 := by rw [hg_g2]; exact sz_g2
 rw [← hg_g2] at Zv2 ⊢
 clear hg_g2
 with_reducible refine wv (.int .i64 0) ?_
 try simp only [zP]
 refine wpList_nil ?_
 refine hK1 _ _ ?_
 refine wp_seq_k fun K3 hK3 => ?_
 refine wp_region_lit ?_
 with_reducible
  refine wv (.slice A l.length cp) ?_
  try simp only [zP]
  refine wc 38 #[.slice A l.length cp] (new_s ee hb) ?_
 rintro e z2 ⟨rfl, rr, t⟩
 refine ⟨_, rfl, ?_⟩
 obtain ⟨gr, hgr⟩ : ∃ g_, g_ = z1.heap.size := ⟨_, rfl⟩
 rw [← hgr] at rr ⊢
 have n_gr_Zv2 : g2 < gr := by rw [hgr]; exact (Array.getElem?_eq_some_iff.1 Zv2).1
 have hB_gr : w.heap.size ≤ gr := by rw [hgr]; exact ee.size
 clear hgr
 have Zv2 := hpB Zv2 t
 have ee := ee.trans (t.mono ee.size)
 clear t
 have tt : TabsAt w.heap.size z2 := (TabsAt.of hT (Nat.le_refl _)).belowM ee
 try simp only [zP]
 with_reducible refine wv (.pointer (some ⟨gr, 0, none⟩)) ?_
 try simp only [zP]
 refine wpList_nil ?_
 refine hK3 _ _ ?_
 refine wp_seq_k fun K4 hK4 => ?_
 refine wp_region_lit ?_
 with_reducible
  refine wv (.pointer (some ⟨gr, 0, none⟩)) ?_
  try simp only [zP]
  refine wc 39 #[.pointer (some ⟨gr, 0, none⟩), .int .i64 1] (take_any w.heap.size gr 1 (l, false) z2 rr) ?_
 rintro e z3 ⟨rfl, rr_, g_⟩
 refine ⟨_, rfl, ?_⟩
 have Zv2 := heapG Zv2 g_ (by omega)
 have ee := ee.grown g_ ee.size (fun i_ h_ => by injection h_ with h_; omega)
 have tt := tt.grown g_ (by omega)
 clear rr g_
 have rr := rr_
 clear rr_
 try simp only [zP]
 with_reducible
  refine wq (.int .i64 ((rk l))) (okIntP ((w1k l) : IntKind.i64.wrap (((C.take 1 (l, false)).1 : Int)) = (rk l)) (by kernel_rfl)) ?_
  refine wv (.agg (({ Rc.zero with kd := rk l } : Rc).cells).toArray) ?_
  refine ww (.pointer (some ⟨z3.heap.size, 0, none⟩)) (z3.alloc (.cells #[.int .i64 0, .int .u32 0, .int .i64 0, .int .i64 0, .int .i64 0, .int .i64 0, .int .i64 0, .slice none 0 0, .slice none 0 0, .int .i64 0, .int .i64 0, .int .i64 0, .int .u64 0, .bool false, .slice none 0 0] 36)) ?_
 try simp only [zP]
 have sz_g5 := ee.size
 have lrr := rr.lt.1
 have rr := rr.alloc (.cells #[.int .i64 0, .int .u32 0, .int .i64 0, .int .i64 0, .int .i64 0, .int .i64 0, .int .i64 0, .slice none 0 0, .slice none 0 0, .int .i64 0, .int .i64 0, .int .i64 0, .int .u64 0, .bool false, .slice none 0 0] 36)
 have tt := tt.alloc (.cells #[.int .i64 0, .int .u32 0, .int .i64 0, .int .i64 0, .int .i64 0, .int .i64 0, .int .i64 0, .slice none 0 0, .slice none 0 0, .int .i64 0, .int .i64 0, .int .i64 0, .int .u64 0, .bool false, .slice none 0 0] 36)
 have lZv2 := (Array.getElem?_eq_some_iff.1 Zv2).1
 have sz_ := ee.size
 have Zv2 := hpA Zv2 (.cells #[.int .i64 0, .int .u32 0, .int .i64 0, .int .i64 0, .int .i64 0, .int .i64 0, .int .i64 0, .slice none 0 0, .slice none 0 0, .int .i64 0, .int .i64 0, .int .i64 0, .int .u64 0, .bool false, .slice none 0 0] 36)
 have ee := ee.alloc ee.size (.cells #[.int .i64 0, .int .u32 0, .int .i64 0, .int .i64 0, .int .i64 0, .int .i64 0, .int .i64 0, .slice none 0 0, .slice none 0 0, .int .i64 0, .int .i64 0, .int .i64 0, .int .u64 0, .bool false, .slice none 0 0] 36)
 have Zv5 := hpN z3 (.cells #[.int .i64 0, .int .u32 0, .int .i64 0, .int .i64 0, .int .i64 0, .int .i64 0, .int .i64 0, .slice none 0 0, .slice none 0 0, .int .i64 0, .int .i64 0, .int .i64 0, .int .u64 0, .bool false, .slice none 0 0] 36) rfl
 obtain ⟨z4, hz_⟩ : ∃ z_ : World, z_ = z3.alloc (.cells #[.int .i64 0, .int .u32 0, .int .i64 0, .int .i64 0, .int .i64 0, .int .i64 0, .int .i64 0, .slice none 0 0, .slice none 0 0, .int .i64 0, .int .i64 0, .int .i64 0, .int .u64 0, .bool false, .slice none 0 0] 36) := ⟨_, rfl⟩
 rw [← hz_] at Zv2 Zv5 ee rr tt ⊢
 clear hz_
 obtain ⟨g5, hg_g5⟩ : ∃ g_, g_ = z3.heap.size := ⟨_, rfl⟩
 have n_g5_Zv2 : g2 < g5 := by rw [hg_g5]; exact lZv2
 have n_g5_rr : gr < g5 := by rw [hg_g5]; exact lrr
 clear lrr
 have hB_g5 : w.heap.size ≤ g5 := by rw [hg_g5]; exact sz_g5
 rw [← hg_g5] at Zv5 ⊢
 clear hg_g5 lZv2
 refine wpList_store_row rfl 36 _ _ rfl (g5) (({ Rc.zero with kd := rk l } : Rc).cells).toArray rfl rfl 36 _ Zv5 sizeRc (by rfl) (Rc.one _) ?_
 have rr := RdrAt.row (k := g5) (cs := (({ Rc.zero with kd := rk l } : Rc).cells).toArray) rr (by omega) (by omega)
 have tt := TabsAt.row (k := g5) (cs := (({ Rc.zero with kd := rk l } : Rc).cells).toArray) tt (by omega)
 have N_ := setRow_heap z4 (g5) _ (({ Rc.zero with kd := rk l } : Rc).cells).toArray _ _ Zv5
 have ee := belowSet (cs := (({ Rc.zero with kd := rk l } : Rc).cells).toArray) ee Zv5 (by omega)
 have Zv2 := hpR Zv2 (g' := g5) (by omega) (({ Rc.zero with kd := rk l } : Rc).cells).toArray
 clear Zv5
 have Zv5 := N_
 clear N_
 obtain ⟨z5, hz_⟩ : ∃ z_ : World, z_ = z4.setRow (g5) (({ Rc.zero with kd := rk l } : Rc).cells).toArray := ⟨_, rfl⟩
 rw [← hz_] at Zv2 Zv5 ee rr tt ⊢
 clear hz_
 try simp only [zP]
 refine wpList_nil ?_
 refine hK4 _ _ ?_
 refine wp_tail 3 fun K6 hK6 gK6 => ?_
 have hjK6 : ∀ (u14 u15 u16 u17 u18 u19 u20 u21 u22 u23 u24 u25 u26 u27 u28 u29 u30 u31 u32 u33 u34 u35 u36 u37 u38 u39 u40 u41 u42 u43 u44 u45 u46 u47 u48 u49 u50 u51 u52 u53 u54 : Value) (m : Rc) (q : Ms) (zj6 : World), zj6.heap[g2]? = some (.cells #[.int .i64 0, .int .u32 0, .int .i64 0, .int .i64 0, .int .i64 0, .int .i64 0, .int .i64 0, .slice none 0 0, .slice none 0 0, .int .i64 0, .int .i64 0, .int .i64 0, .int .u64 0, .bool false, .slice none 0 0] 36 (0, 0)) → zj6.heap[g5]? = some (.cells (m.cells).toArray 36 (0, 0)) → Below w.heap.size w zj6 → CtN zj6 w.heap.size gr g5 g2 g2 q → m.c = q.c → m.br < 4294967296 → OwnB zj6 w.heap.size (.slice m.D m.dt.length m.dc) m.dt → LikeR m (rcm l) → K6 ⟨#[.slice A l.length cp, undef, .pointer (some ⟨g2, 0, none⟩), .int .i64 0, .pointer (some ⟨gr, 0, none⟩), .pointer (some ⟨g5, 0, none⟩), undef, undef, .slice A l.length cp, .pointer (some ⟨gr, 0, none⟩), .pointer (some ⟨gr, 0, none⟩), .int .u64 (((C.take 1 (l, false)).1 : Int)), .int .i64 ((rk l)), .agg (({ Rc.zero with kd := rk l } : Rc).cells).toArray, u14, u15, u16, u17, u18, u19, u20, u21, u22, u23, u24, u25, u26, u27, u28, u29, u30, u31, u32, u33, u34, u35, u36, u37, u38, u39, u40, u41, u42, u43, u44, u45, u46, u47, u48, u49, u50, u51, u52, u53, u54, undef, undef, undef, undef, undef, undef, undef, undef, undef, undef, undef, undef, undef, undef, undef], []⟩ zj6 := by
  clear Zv2 Zv5 ee
  intro u14 u15 u16 u17 u18 u19 u20 u21 u22 u23 u24 u25 u26 u27 u28 u29 u30 u31 u32 u33 u34 u35 u36 u37 u38 u39 u40 u41 u42 u43 u44 u45 u46 u47 u48 u49 u50 u51 u52 u53 u54 m q zj6 Zv2 Zv5 ee ck hmc hmb O lk
  refine hK6 _ _ ?_
  have tt : TabsAt w.heap.size zj6 := (TabsAt.of hT (Nat.le_refl _)).belowM ee
  refine wp_seq_k fun K8 hK8 => ?_
  refine wp_seq_k fun K9 hK9 => ?_
  refine wp_region_lit ?_
  with_reducible refine wg (g5) (0) (m.cells) (rowAt Zv5) Tryz.underlying36 ?_
  try simp only [zP]
  have okr : RcOk zj6 zj6.heap.size m := (rcOk2N ck m hmc hmb O).out
  have hdt : (m).dt.length ≤ 100000000 := by rw [lk.dt]; exact Nat.le_trans (rcm_data l) hl
  with_reducible refine wc 8 #[.agg (m.cells).toArray] (wwrite_any m zj6 zj6.heap.size (Nat.le_refl _) okr hdt tt.tabs) ?_
  rintro e z6 ⟨⟨v1, l1, x1, rfl, s1, hx1, hl1⟩, t⟩
  refine ⟨_, rfl, ?_⟩
  have tt := tt.belowS t
  have ck := ck.below t
  have Zv2 := hpB Zv2 t
  have Zv5 := hpB Zv5 t
  have O := ownBelow O t
  have ee := ee.trans (t.mono ee.size)
  clear t
  clear tt
  try simp only [zP]
  with_reducible
   refine wv (.tuple #[v1, .int .i64 x1]) ?_
   iterate 2 ((refine wv (v1) ?_);(refine wv (.int .i64 x1) ?_))
  try simp only [zP]
  refine wpList_nil ?_
  refine hK9 _ _ ?_
  refine wp_seq_k fun K10 hK10 => ?_
  refine wp_region_lit ?_
  with_reducible refine wv (.int .i64 x1) ?_
  try simp only [zP]
  obtain ⟨b11, hb11⟩ : ∃ d_ : Bool, (decide (x1 = 0)) = d_ := ⟨_, rfl⟩
  cases b11
  ·have pb11 : ¬ (x1 = 0) := of_decide_eq_false hb11
   with_reducible
    refine wb (.bool true) (.int .i64 x1) (.int .i64 0) 40 (run_neqI hb11) ?_
    refine wv (.bool true) ?_
   iterate 4 (with_reducible refine wk ?_)
   with_reducible refine wv (.bool true) ?_
   try simp only [zP]
   refine wpList_nil ?_
   refine hK10 _ _ ?_
   refine wp_cond_true (by kernel_rfl) ?_
   refine wp_seq_k fun K12 hK12 => ?_
   refine wp_region_lit ?_
   with_reducible refine wv (.agg (Rc.zero.cells).toArray) ?_
   try simp only [zP]
   refine wpList_store_row rfl 36 _ _ rfl (g2) (Rc.zero.cells).toArray rfl rfl 36 _ Zv2 sizeRc (by rfl) (Rc.one _) ?_
   have ck := ck.rowB (Rc.zero.cells).toArray
   have N_ := setRow_heap z6 (g2) _ (Rc.zero.cells).toArray _ _ Zv2
   have O := ogOwnR (cs := (Rc.zero.cells).toArray) O (ogKind O Zv2 (by decide))
   have ee := belowSet (cs := (Rc.zero.cells).toArray) ee Zv2 (by omega)
   have Zv5 := hpR Zv5 (g' := g2) (by omega) (Rc.zero.cells).toArray
   clear Zv2
   have Zv2 := N_
   clear N_
   obtain ⟨z7, hz_⟩ : ∃ z_ : World, z_ = z6.setRow (g2) (Rc.zero.cells).toArray := ⟨_, rfl⟩
   rw [← hz_] at Zv2 Zv5 O ee ck ⊢
   clear hz_
   try simp only [zP]
   with_reducible refine wv (.int .i64 2) ?_
   try simp only [zP]
   refine wpList_nil ?_
   refine hK12 _ _ ?_
   refine wp_ret ?_
   refine then_ret ?_
   have hok : rcok l = false := rcok_no lk hx1 hl1 (Or.inl (of_decide_eq_false hb11))
   exact bodyPost_ret (v := .tuple #[.agg (Rc.zero.cells).toArray, .int .i64 2]) (res_ct rfl (by kernel_rfl) (by kernel_rfl) Zv2 Tryz.underlying36 rfl sizeRc) rfl ⟨⟨Rc.zero, 2, rfl, NewR.zero, by rw [hok]; rfl, by rw [hok]; exact LikeR.refl _⟩, ee⟩
  have pb11 : x1 = 0 := of_decide_eq_true hb11
  have eb11 : x1 = 0 := of_decide_eq_true hb11
  with_reducible
   refine wb (.bool false) (.int .i64 x1) (.int .i64 0) 40 (run_neqI hb11) ?_
   refine wv (.bool false) ?_
   refine wv (.slice A l.length cp) ?_
   refine wv (v1) ?_
   try simp only [zP]
   refine wc 43 #[.slice A l.length cp, v1] (bequal_s ((hb.belowM ee (Nat.le_refl _)).more ee.size) s1 z6) ?_
  rintro e z7 ⟨rfl, hw_⟩
  refine ⟨_, rfl, ?_⟩
  rw [← hw_]
  clear hw_ z7
  generalize hb13 : decide (l = l1) = b13
  try simp only [zP]
  cases b13
  ·with_reducible refine wv (.bool true) ?_
   try simp only [zP]
   with_reducible refine wv (.bool true) ?_
   try simp only [zP]
   refine wpList_nil ?_
   refine hK10 _ _ ?_
   refine wp_cond_true (by kernel_rfl) ?_
   refine wp_seq_k fun K14 hK14 => ?_
   refine wp_region_lit ?_
   with_reducible refine wv (.agg (Rc.zero.cells).toArray) ?_
   try simp only [zP]
   refine wpList_store_row rfl 36 _ _ rfl (g2) (Rc.zero.cells).toArray rfl rfl 36 _ Zv2 sizeRc (by rfl) (Rc.one _) ?_
   have ck := ck.rowB (Rc.zero.cells).toArray
   have N_ := setRow_heap z6 (g2) _ (Rc.zero.cells).toArray _ _ Zv2
   have O := ogOwnR (cs := (Rc.zero.cells).toArray) O (ogKind O Zv2 (by decide))
   have ee := belowSet (cs := (Rc.zero.cells).toArray) ee Zv2 (by omega)
   have Zv5 := hpR Zv5 (g' := g2) (by omega) (Rc.zero.cells).toArray
   clear Zv2
   have Zv2 := N_
   clear N_
   obtain ⟨z8, hz_⟩ : ∃ z_ : World, z_ = z6.setRow (g2) (Rc.zero.cells).toArray := ⟨_, rfl⟩
   rw [← hz_] at Zv2 Zv5 O ee ck ⊢
   clear hz_
   try simp only [zP]
   with_reducible refine wv (.int .i64 2) ?_
   try simp only [zP]
   refine wpList_nil ?_
   refine hK14 _ _ ?_
   refine wp_ret ?_
   refine then_ret ?_
   have hok : rcok l = false := rcok_no lk hx1 hl1 (Or.inr ⟨of_decide_eq_true hb11, of_decide_eq_false hb13⟩)
   exact bodyPost_ret (v := .tuple #[.agg (Rc.zero.cells).toArray, .int .i64 2]) (res_ct rfl (by kernel_rfl) (by kernel_rfl) Zv2 Tryz.underlying36 rfl sizeRc) rfl ⟨⟨Rc.zero, 2, rfl, NewR.zero, by rw [hok]; rfl, by rw [hok]; exact LikeR.refl _⟩, ee⟩
  iterate 2 (with_reducible refine wv (.bool false) ?_)
  try simp only [zP]
  refine wpList_nil ?_
  refine hK10 _ _ ?_
  refine wp_cond_false (by kernel_rfl) ?_
  refine wp_skip ?_
  refine hK8 _ _ ?_
  refine wp_seq_k fun K15 hK15 => ?_
  refine wp_region_lit ?_
  with_reducible refine wg (g5) (0) (m.cells) (rowAt Zv5) Tryz.underlying36 ?_
  try simp only [zP]
  refine wpList_store_row rfl 36 _ _ rfl (g2) (m.cells).toArray rfl rfl 36 _ Zv2 sizeRc (by rfl) (Rc.one _) ?_
  have ck := ck.rowB (m.cells).toArray
  have N_ := setRow_heap z6 (g2) _ (m.cells).toArray _ _ Zv2
  have O := ogOwnR (cs := (m.cells).toArray) O (ogKind O Zv2 (by decide))
  have ee := belowSet (cs := (m.cells).toArray) ee Zv2 (by omega)
  have Zv5 := hpR Zv5 (g' := g2) (by omega) (m.cells).toArray
  clear Zv2
  have Zv2 := N_
  clear N_
  obtain ⟨z8, hz_⟩ : ∃ z_ : World, z_ = z6.setRow (g2) (m.cells).toArray := ⟨_, rfl⟩
  rw [← hz_] at Zv2 Zv5 O ee ck ⊢
  clear hz_
  try simp only [zP]
  with_reducible refine wv (.int .i64 0) ?_
  try simp only [zP]
  refine wpList_nil ?_
  refine hK15 _ _ ?_
  refine wp_ret ?_
  have hok : rcok l = true := rcok_yes lk hx1 hl1 (of_decide_eq_true hb11) (of_decide_eq_true hb13)
  exact bodyPost_ret (v := .tuple #[.agg (m.cells).toArray, .int .i64 0]) (res_ct rfl (by kernel_rfl) (by kernel_rfl) Zv2 Tryz.underlying36 rfl sizeRc) rfl ⟨⟨m, 0, rfl, rcOk2N ck m hmc hmb O, by rw [hok]; rfl, by rw [hok]; exact lk⟩, ee⟩
 refine wp_seq_k fun K16 hK16 => ?_
 have ck := CtN.zero z5 w.heap.size gr g5 g2 g2 0
 refine wp_seq_k fun K17 hK17 => ?_
 refine wp_region_lit ?_
 with_reducible
  refine wv (.pointer (some ⟨g5, 0, none⟩)) ?_
  refine wl (.int .i64 ((rk l))) ⟨g5, 0, none⟩ (rowCell Zv5 (0) rfl) Tryz.underlying3 ?_
 try simp only [zP]
 obtain ⟨b18, hb18⟩ : ∃ d_ : Bool, (decide ((rk l) = 1)) = d_ := ⟨_, rfl⟩
 with_reducible
  refine wb (.bool b18) (.int .i64 ((rk l))) (.int .i64 1) 3 (run_eqlI hb18) ?_
  refine wv (.bool b18) ?_
 try simp only [zP]
 cases b18
 ·have pb18 : ¬ ((rk l) = 1) := of_decide_eq_false hb18
  with_reducible
   refine wv (.pointer (some ⟨g5, 0, none⟩)) ?_
   refine wl (.int .i64 ((rk l))) ⟨g5, 0, none⟩ (rowCell Zv5 (0) rfl) Tryz.underlying3 ?_
  try simp only [zP]
  obtain ⟨b19, hb19⟩ : ∃ d_ : Bool, (decide ((rk l) = 2)) = d_ := ⟨_, rfl⟩
  with_reducible
   refine wb (.bool b19) (.int .i64 ((rk l))) (.int .i64 2) 3 (run_eqlI hb19) ?_
   refine wv (.bool b19) ?_
  try simp only [zP]
  refine wpList_nil ?_
  refine hK17 _ _ ?_
  cases b19
  ·have pb19 : ¬ ((rk l) = 2) := of_decide_eq_false hb19
   refine wp_cond_false (by kernel_rfl) ?_
   refine wp_skip ?_
   refine hK16 _ _ ?_
   refine wp_seq_k fun K20 hK20 => ?_
   refine wp_seq_k fun K21 hK21 => ?_
   refine wp_region_lit ?_
   with_reducible
    refine wv (.pointer (some ⟨g5, 0, none⟩)) ?_
    refine wl (.int .i64 ((rk l))) ⟨g5, 0, none⟩ (rowCell Zv5 (0) rfl) Tryz.underlying3 ?_
    refine wb (.bool true) (.int .i64 ((rk l))) (.int .i64 1) 3 (run_neqI hb18) ?_
   try simp only [zP]
   refine wpList_nil ?_
   refine hK21 _ _ ?_
   refine wp_cond_true (by kernel_rfl) ?_
   refine wp_region_lit ?_
   with_reducible
    refine wv (.pointer (some ⟨gr, 0, none⟩)) ?_
    try simp only [zP]
    refine wc 39 #[.pointer (some ⟨gr, 0, none⟩), .int .i64 4] (take_any w.heap.size gr 4 (C.take 1 (l, false)).2 z5 rr) ?_
   rintro e z6 ⟨rfl, rr_, g_⟩
   refine ⟨_, rfl, ?_⟩
   have Zv2 := heapG Zv2 g_ (by omega)
   have Zv5 := heapG Zv5 g_ (by omega)
   have ee := ee.grown g_ ee.size (fun i_ h_ => by injection h_ with h_; omega)
   have tt := tt.grown g_ (by omega)
   have ck := ck.rdr g_
   clear rr g_
   have rr := rr_
   clear rr_
   try simp only [zP]
   with_reducible
    refine wq (.int .i64 (((C.take 4 (C.take 1 (l, false)).2).1 : Int))) (okIntP ((w4 (C.take 1 (l, false)).2) : IntKind.i64.wrap (((C.take 4 (C.take 1 (l, false)).2).1 : Int)) = ((C.take 4 (C.take 1 (l, false)).2).1 : Int)) (by kernel_rfl)) ?_
    refine wv (.pointer (some ⟨g5, 3, none⟩)) ?_
   try simp only [zP]
   refine wpList_storeC 3 (g5) (3) (.int .i64 (((C.take 4 (C.take 1 (l, false)).2).1 : Int))) ([.int .i64 (((C.take 4 (C.take 1 (l, false)).2).1 : Int))]) (rowThere Zv5 (Nat.le_of_ble_eq_true (by kernel_rfl))) (by kernel_rfl) (by kernel_rfl) (all1 rfl) _ _ (by kernel_rfl) rfl (by kernel_rfl) (by kernel_rfl) ?_
   have rr := RdrAt.setN (k := g5) (by omega) (by omega) ([.int .i64 (((C.take 4 (C.take 1 (l, false)).2).1 : Int))]) (3) z6 rr
   have tt := TabsAt.setN (k := g5) (by omega) ([.int .i64 (((C.take 4 (C.take 1 (l, false)).2).1 : Int))]) (3) z6 tt
   have ck := ck.cells ([.int .i64 (((C.take 4 (C.take 1 (l, false)).2).1 : Int))]) (3)
   have N_ : (z6.setCells (g5) (3) ([.int .i64 (((C.take 4 (C.take 1 (l, false)).2).1 : Int))])).heap[g5]? = some (.cells (({ Rc.zero with kd := rk l, sl := ((C.take 4 (C.take 1 (l, false)).2).1 : Int) } : Rc).cells).toArray 36) := hpC ([.int .i64 (((C.take 4 (C.take 1 (l, false)).2).1 : Int))]) (3) _ z6 Zv5
   have ee := belowC (g := g5) (by omega) ([.int .i64 (((C.take 4 (C.take 1 (l, false)).2).1 : Int))]) (3) z6 ee
   have Zv2 := hpCo (g' := g5) (by omega) ([.int .i64 (((C.take 4 (C.take 1 (l, false)).2).1 : Int))]) (3) z6 Zv2
   clear Zv5
   have Zv5 := N_
   clear N_
   skip
   obtain ⟨z7, hz_⟩ : ∃ z_ : World, z_ = z6.setCells (g5) (3) ([.int .i64 (((C.take 4 (C.take 1 (l, false)).2).1 : Int))]) := ⟨_, rfl⟩
   rw [← hz_] at Zv2 Zv5 ee rr tt ck ⊢
   clear hz_
   try simp only [zP]
   refine wpList_nil ?_
   refine hK20 _ _ ?_
   refine wp_seq_k fun K22 hK22 => ?_
   refine wp_seq_k fun K23 hK23 => ?_
   refine wp_region_lit ?_
   with_reducible
    refine wv (.pointer (some ⟨g5, 0, none⟩)) ?_
    refine wl (.int .i64 ((rk l))) ⟨g5, 0, none⟩ (rowCell Zv5 (0) rfl) Tryz.underlying3 ?_
   try simp only [zP]
   refine wpList_nil ?_
   refine hK23 _ _ ?_
   refine wp_block ?_
   refine wp_seq_k fun K24 hK24 => ?_
   refine wp_seq_k fun K25 hK25 => ?_
   refine wp_region_lit ?_
   with_reducible
    refine wb (.bool false) (.int .i64 ((rk l))) (.int .i64 2) 3 (run_eqlI hb19) ?_
    refine wv (.bool false) ?_
   try simp only [zP]
   refine wpList_nil ?_
   refine hK25 _ _ ?_
   refine wp_cond_false (by kernel_rfl) ?_
   refine wp_region_lit ?_
   obtain ⟨b26, hb26⟩ : ∃ d_ : Bool, (decide ((rk l) = 3)) = d_ := ⟨_, rfl⟩
   with_reducible
    refine wb (.bool b26) (.int .i64 ((rk l))) (.int .i64 3) 3 (run_eqlI hb26) ?_
    refine wv (.bool b26) ?_
   try simp only [zP]
   refine wpList_nil ?_
   refine hK24 _ _ ?_
   cases b26
   ·have pb26 : ¬ ((rk l) = 3) := of_decide_eq_false hb26
    refine wp_cond_false (by kernel_rfl) ?_
    refine wp_seq_k fun K27 hK27 => ?_
    refine wp_region_lit ?_
    obtain ⟨b28, hb28⟩ : ∃ d_ : Bool, (decide ((rk l) = 4)) = d_ := ⟨_, rfl⟩
    with_reducible
     refine wb (.bool b28) (.int .i64 ((rk l))) (.int .i64 4) 3 (run_eqlI hb28) ?_
     refine wv (.bool b28) ?_
    try simp only [zP]
    refine wpList_nil ?_
    refine hK27 _ _ ?_
    cases b28
    ·have pb28 : ¬ ((rk l) = 4) := of_decide_eq_false hb28
     refine wp_cond_false (by kernel_rfl) ?_
     refine wp_skip ?_
     refine inBlock_normal ?_
     refine hK22 _ _ ?_
     have lk : LikeR ({ Rc.zero with kd := rk l, sl := ((C.take 4 (C.take 1 (l, false)).2).1 : Int) } : Rc) (rcm l) := by
      unfold T.rcm
      rw [if_neg (by omega : ¬ rk l = 1), if_neg (by omega : ¬ rk l = 2), if_neg (by omega : ¬ rk l = 3), if_neg (by omega : ¬ rk l = 4)]
      exact { kd := rfl, br := rfl, bn := rfl, sl := rfl, c := SameC_self _, dt := rfl }
     refine gK6 _ _ ?_
     exact hjK6 _ _ _ _ _ _ _ _ _ _ _ _ _ _ _ _ _ _ _ _ _ _ _ _ _ _ _ _ _ _ _ _ _ _ _ _ _ _ _ _ _ ({ Rc.zero with kd := rk l, sl := ((C.take 4 (C.take 1 (l, false)).2).1 : Int) } : Rc) _ _ Zv2 Zv5 ee ck rfl (by show 0 < 4294967296; decide) OwnB.nil lk
    have pb28 : (rk l) = 4 := of_decide_eq_true hb28
    have eb28 : (rk l) = 4 := of_decide_eq_true hb28
    refine wp_cond_true (by kernel_rfl) ?_
    refine wp_seq_k fun K29 hK29 => ?_
    refine wp_region_lit ?_
    with_reducible
     refine wv (.pointer (some ⟨gr, 0, none⟩)) ?_
     try simp only [zP]
     refine wc 39 #[.pointer (some ⟨gr, 0, none⟩), .int .i64 4] (take_any w.heap.size gr 4 (C.take 4 (C.take 1 (l, false)).2).2 z7 rr) ?_
    rintro e z8 ⟨rfl, rr_, g_⟩
    refine ⟨_, rfl, ?_⟩
    have Zv2 := heapG Zv2 g_ (by omega)
    have Zv5 := heapG Zv5 g_ (by omega)
    have ee := ee.grown g_ ee.size (fun i_ h_ => by injection h_ with h_; omega)
    have tt := tt.grown g_ (by omega)
    have ck := ck.rdr g_
    clear rr g_
    have rr := rr_
    clear rr_
    try simp only [zP]
    refine wpList_nil ?_
    refine hK29 _ _ ?_
    have hsuf := suf_rest l (C.take 4 (C.take 4 (C.take 1 (l, false)).2).2).2 (suf_take 4 l _ (suf_take 4 l _ (suf_take 1 l (l, false) ⟨0, Nat.zero_le _, rfl⟩)))
    obtain ⟨A2, hA2⟩ : ∃ q_, q_ = (if cp = l.length - C.left (C.take 4 (C.take 4 (C.take 1 (l, false)).2).2).2 then A else A.map (·.add (l.length - C.left (C.take 4 (C.take 4 (C.take 1 (l, false)).2).2).2))) := ⟨_, rfl⟩
    have hs2 := slSuf hb (k := l.length - C.left (C.take 4 (C.take 4 (C.take 1 (l, false)).2).2).2) (by omega)
    rw [← hA2, hsuf.2] at hs2
    have O : OwnB z8 w.heap.size (.slice none 0 0) [] := OwnB.nil
    have rr := RdrAt.drewS rr
    have tt := TabsAt.drewS tt
    have ck := CtN.drew ck
    have Zv2 : z8.drew.heap[g2]? = some (.cells #[.int .i64 0, .int .u32 0, .int .i64 0, .int .i64 0, .int .i64 0, .int .i64 0, .int .i64 0, .slice none 0 0, .slice none 0 0, .int .i64 0, .int .i64 0, .int .i64 0, .int .u64 0, .bool false, .slice none 0 0] 36) := Zv2
    have Zv5 : z8.drew.heap[g5]? = some (.cells (({ Rc.zero with kd := rk l, sl := ((C.take 4 (C.take 1 (l, false)).2).1 : Int) } : Rc).cells).toArray 36) := Zv5
    have O := World.ownsRow.drew O
    have ee := belowDrewS ee
    with_reducible refine any_begin (fun z' => z'.heap[g2]? = some (.cells #[.int .i64 0, .int .u32 0, .int .i64 0, .int .i64 0, .int .i64 0, .int .i64 0, .int .i64 0, .slice none 0 0, .slice none 0 0, .int .i64 0, .int .i64 0, .int .i64 0, .int .u64 0, .bool false, .slice none 0 0] 36 (0, 0))) 12 #[false, false, false, false, false, false, false, false, false, false, false, false] Zv2 ?_ ?_
    ·intro c_ a_ d_ v_ w_ h_; cases d_ <;> exact h_
    obtain ⟨z9, hz_⟩ : ∃ z_ : World, z_ = z8.drew := ⟨_, rfl⟩
    rw [← hz_] at Zv2 Zv5 O ee rr tt ck ⊢
    clear hz_
    with_reducible
     refine ha 0 (some 44) (.pointer (some ⟨g5, 14, none⟩)) #[true, false, false, false, false, false, false, false, false, false, false, false] (fun w_ _ => by kernel_rfl) Zv2 ?_
     try simp only [zP]
     refine ha 2 (some 46) (.slice A l.length cp) #[true, false, true, false, false, false, false, false, false, false, false, false] (fun w_ _ => by kernel_rfl) Zv2 ?_
     try simp only [zP]
     refine ha 3 (some 47) (.slice A l.length cp) #[true, false, true, true, false, false, false, false, false, false, false, false] (fun w_ _ => by kernel_rfl) Zv2 ?_
     try simp only [zP]
     refine ha 4 (some 48) (.int .i64 ((l.length : Int))) #[true, false, true, true, true, false, false, false, false, false, false, false] (fun w_ _ => by kernel_rfl) Zv2 ?_
     try simp only [zP]
     refine ha 5 (some 49) (.pointer (some ⟨gr, 0, none⟩)) #[true, false, true, true, true, true, false, false, false, false, false, false] (fun w_ _ => by kernel_rfl) Zv2 ?_
     try simp only [zP]
     refine any2 1 6 ?_ ?_
    ·with_reducible refine st_l 1 (some 45) (.slice none 0 0) ⟨g5, 14, none⟩ #[true, true, true, true, true, true, false, false, false, false, false, false] (rowCell Zv5 (14) rfl) Tryz.underlying34 Zv2 ?_
     try simp only [zP]
     with_reducible
      refine any1 6 ?_
      refine st_f 6 (some 50) 42 #[.pointer (some ⟨gr, 0, none⟩)] #[true, true, true, true, true, true, true, false, false, false, false, false] (left_any w.heap.size gr (C.take 4 (C.take 4 (C.take 1 (l, false)).2).2).2 z9 rr) ?_
     rintro e z10 ⟨rfl, hw_⟩
     refine ⟨_, rfl, ?_⟩
     rw [← hw_]
     clear hw_ z10
     refine ⟨Zv2, ?_⟩
     try simp only [zP]
     with_reducible
      refine ha 7 (some 51) (.int .i64 (((l.length - C.left (C.take 4 (C.take 4 (C.take 1 (l, false)).2).2).2 : Nat) : Int))) #[true, true, true, true, true, true, true, true, false, false, false, false] (fun w_ _ => (okIntA ((by rw [IntKind.wrap_i64]; have := hsuf.1; omega) : IntKind.i64.wrap ((l.length : Int) - (C.left (C.take 4 (C.take 4 (C.take 1 (l, false)).2).2).2 : Nat)) = ((l.length - C.left (C.take 4 (C.take 4 (C.take 1 (l, false)).2).2).2 : Nat) : Int)) (by kernel_rfl))) Zv2 ?_
      try simp only [zP]
      refine ha 8 (some 52) (.slice A2 (l.length - (l.length - C.left (C.take 4 (C.take 4 (C.take 1 (l, false)).2).2).2)) (cp - (l.length - C.left (C.take 4 (C.take 4 (C.take 1 (l, false)).2).2).2))) #[true, true, true, true, true, true, true, true, true, false, false, false] (fun w_ _ => (by rw [hA2]; refine runOf rfl ?_; exact exec_slice_l (.tmp 46) (.tmp 51) (A := A) (len := l.length) (cap := cp) (k := (l.length - C.left (C.take 4 (C.take 4 (C.take 1 (l, false)).2).2).2)) rfl rfl rfl (by omega))) Zv2 ?_
      try simp only [zP]
      refine any1 9 ?_
     refine st_a8 9 (some 53) (.tmp 45) (.tmp 52) #[true, true, true, true, true, true, true, true, true, true, false, false] O ((hs2.belowM ee (Nat.le_refl _)).more ee.size) (by simp) (by rw [← hsuf.2, List.length_drop]; omega) ee.size ?_
     intro v_ z11 O_ g_
     have Zv2 := heapKind O g_ (by decide) Zv2
     have Zv5 := heapKind O g_ (by decide) Zv5
     have rr := rdrOwn rr O g_
     have tt := TabsAt.own tt O g_ (Nat.le_refl _)
     have ck := CtN.zero z11 w.heap.size gr g5 g2 g2 0
     have ee := ee.grown g_ ee.size (fun i_ h_ => (O.lt i_ h_).1)
     clear g_ O
     have O := O_
     clear O_
     rw [List.nil_append] at O
     obtain ⟨D2, c2, e_, _, _, _⟩ := ownShape O
     subst e_
     refine ⟨Zv2, ?_⟩
     try simp only [zP]
     with_reducible
      refine ha 10 (some 54) (.pointer (some ⟨g5, 14, none⟩)) #[true, true, true, true, true, true, true, true, true, true, true, false] (fun w_ _ => by kernel_rfl) Zv2 ?_
      try simp only [zP]
      refine any1 11 ?_
      refine st_c 11 34 (g5) (14) (.slice D2 (restOf (C.take 4 (C.take 4 (C.take 1 (l, false)).2).2).2).length c2) ([.slice D2 (restOf (C.take 4 (C.take 4 (C.take 1 (l, false)).2).2).2).length c2]) #[true, true, true, true, true, true, true, true, true, true, true, true] (rowThere Zv5 (Nat.le_of_ble_eq_true (by kernel_rfl))) (by kernel_rfl) (by kernel_rfl) (all1 rfl) ?_
     have rr := RdrAt.setN (k := g5) (by omega) (by omega) ([.slice D2 (restOf (C.take 4 (C.take 4 (C.take 1 (l, false)).2).2).2).length c2]) (14) z11 rr
     have tt := TabsAt.setN (k := g5) (by omega) ([.slice D2 (restOf (C.take 4 (C.take 4 (C.take 1 (l, false)).2).2).2).length c2]) (14) z11 tt
     have ck := ck.cells ([.slice D2 (restOf (C.take 4 (C.take 4 (C.take 1 (l, false)).2).2).2).length c2]) (14)
     have N_ : (z11.setCells (g5) (14) ([.slice D2 (restOf (C.take 4 (C.take 4 (C.take 1 (l, false)).2).2).2).length c2])).heap[g5]? = some (.cells (({ Rc.zero with kd := rk l, sl := ((C.take 4 (C.take 1 (l, false)).2).1 : Int), dt := restOf (C.take 4 (C.take 4 (C.take 1 (l, false)).2).2).2, D := D2, dc := c2 } : Rc).cells).toArray 36) := hpC ([.slice D2 (restOf (C.take 4 (C.take 4 (C.take 1 (l, false)).2).2).2).length c2]) (14) _ z11 Zv5
     have O := ogOwnC O (ogKind O Zv5 (by decide)) ([.slice D2 (restOf (C.take 4 (C.take 4 (C.take 1 (l, false)).2).2).2).length c2]) (14)
     have ee := belowC (g := g5) (by omega) ([.slice D2 (restOf (C.take 4 (C.take 4 (C.take 1 (l, false)).2).2).2).length c2]) (14) z11 ee
     have Zv2 := hpCo (g' := g5) (by omega) ([.slice D2 (restOf (C.take 4 (C.take 4 (C.take 1 (l, false)).2).2).2).length c2]) (14) z11 Zv2
     clear Zv5
     have Zv5 := N_
     clear N_
     skip
     obtain ⟨z12, hz_⟩ : ∃ z_ : World, z_ = z11.setCells (g5) (14) ([.slice D2 (restOf (C.take 4 (C.take 4 (C.take 1 (l, false)).2).2).2).length c2]) := ⟨_, rfl⟩
     rw [← hz_] at Zv2 Zv5 O ee rr tt ck ⊢
     clear hz_
     refine ⟨Zv2, ?_⟩
     try simp only [zP]
     with_reducible refine any_end ?_
     refine inBlock_normal ?_
     refine hK22 _ _ ?_
     have lk : LikeR ({ Rc.zero with kd := rk l, sl := ((C.take 4 (C.take 1 (l, false)).2).1 : Int), dt := restOf (C.take 4 (C.take 4 (C.take 1 (l, false)).2).2).2, D := D2, dc := c2 } : Rc) (rcm l) := by
      unfold T.rcm
      rw [if_neg pb18, if_neg pb19, if_neg pb26, if_pos pb28]
      exact { kd := rfl, br := rfl, bn := rfl, sl := rfl, c := SameC_self _, dt := rfl }
     refine gK6 _ _ ?_
     exact hjK6 _ _ _ _ _ _ _ _ _ _ _ _ _ _ _ _ _ _ _ _ _ _ _ _ _ _ _ _ _ _ _ _ _ _ _ _ _ _ _ _ _ ({ Rc.zero with kd := rk l, sl := ((C.take 4 (C.take 1 (l, false)).2).1 : Int), dt := restOf (C.take 4 (C.take 4 (C.take 1 (l, false)).2).2).2, D := D2, dc := c2 } : Rc) _ _ Zv2 Zv5 ee ck rfl (by show 0 < 4294967296; decide) O lk
    ·with_reducible refine st_f 6 (some 50) 42 #[.pointer (some ⟨gr, 0, none⟩)] #[true, false, true, true, true, true, true, false, false, false, false, false] (left_any w.heap.size gr (C.take 4 (C.take 4 (C.take 1 (l, false)).2).2).2 z9 rr) ?_
     rintro e z10 ⟨rfl, hw_⟩
     refine ⟨_, rfl, ?_⟩
     rw [← hw_]
     clear hw_ z10
     refine ⟨Zv2, ?_⟩
     try simp only [zP]
     with_reducible
      refine ha 7 (some 51) (.int .i64 (((l.length - C.left (C.take 4 (C.take 4 (C.take 1 (l, false)).2).2).2 : Nat) : Int))) #[true, false, true, true, true, true, true, true, false, false, false, false] (fun w_ _ => (okIntA ((by rw [IntKind.wrap_i64]; have := hsuf.1; omega) : IntKind.i64.wrap ((l.length : Int) - (C.left (C.take 4 (C.take 4 (C.take 1 (l, false)).2).2).2 : Nat)) = ((l.length - C.left (C.take 4 (C.take 4 (C.take 1 (l, false)).2).2).2 : Nat) : Int)) (by kernel_rfl))) Zv2 ?_
      try simp only [zP]
      refine ha 8 (some 52) (.slice A2 (l.length - (l.length - C.left (C.take 4 (C.take 4 (C.take 1 (l, false)).2).2).2)) (cp - (l.length - C.left (C.take 4 (C.take 4 (C.take 1 (l, false)).2).2).2))) #[true, false, true, true, true, true, true, true, true, false, false, false] (fun w_ _ => (by rw [hA2]; refine runOf rfl ?_; exact exec_slice_l (.tmp 46) (.tmp 51) (A := A) (len := l.length) (cap := cp) (k := (l.length - C.left (C.take 4 (C.take 4 (C.take 1 (l, false)).2).2).2)) rfl rfl rfl (by omega))) Zv2 ?_
      try simp only [zP]
      refine any1 1 ?_
      refine st_l 1 (some 45) (.slice none 0 0) ⟨g5, 14, none⟩ #[true, true, true, true, true, true, true, true, true, false, false, false] (rowCell Zv5 (14) rfl) Tryz.underlying34 Zv2 ?_
      try simp only [zP]
      refine any1 9 ?_
     refine st_a8 9 (some 53) (.tmp 45) (.tmp 52) #[true, true, true, true, true, true, true, true, true, true, false, false] O ((hs2.belowM ee (Nat.le_refl _)).more ee.size) (by simp) (by rw [← hsuf.2, List.length_drop]; omega) ee.size ?_
     intro v_ z11 O_ g_
     have Zv2 := heapKind O g_ (by decide) Zv2
     have Zv5 := heapKind O g_ (by decide) Zv5
     have rr := rdrOwn rr O g_
     have tt := TabsAt.own tt O g_ (Nat.le_refl _)
     have ck := CtN.zero z11 w.heap.size gr g5 g2 g2 0
     have ee := ee.grown g_ ee.size (fun i_ h_ => (O.lt i_ h_).1)
     clear g_ O
     have O := O_
     clear O_
     rw [List.nil_append] at O
     obtain ⟨D2, c2, e_, _, _, _⟩ := ownShape O
     subst e_
     refine ⟨Zv2, ?_⟩
     try simp only [zP]
     with_reducible
      refine ha 10 (some 54) (.pointer (some ⟨g5, 14, none⟩)) #[true, true, true, true, true, true, true, true, true, true, true, false] (fun w_ _ => by kernel_rfl) Zv2 ?_
      try simp only [zP]
      refine any1 11 ?_
      refine st_c 11 34 (g5) (14) (.slice D2 (restOf (C.take 4 (C.take 4 (C.take 1 (l, false)).2).2).2).length c2) ([.slice D2 (restOf (C.take 4 (C.take 4 (C.take 1 (l, false)).2).2).2).length c2]) #[true, true, true, true, true, true, true, true, true, true, true, true] (rowThere Zv5 (Nat.le_of_ble_eq_true (by kernel_rfl))) (by kernel_rfl) (by kernel_rfl) (all1 rfl) ?_
     have rr := RdrAt.setN (k := g5) (by omega) (by omega) ([.slice D2 (restOf (C.take 4 (C.take 4 (C.take 1 (l, false)).2).2).2).length c2]) (14) z11 rr
     have tt := TabsAt.setN (k := g5) (by omega) ([.slice D2 (restOf (C.take 4 (C.take 4 (C.take 1 (l, false)).2).2).2).length c2]) (14) z11 tt
     have ck := ck.cells ([.slice D2 (restOf (C.take 4 (C.take 4 (C.take 1 (l, false)).2).2).2).length c2]) (14)
     have N_ : (z11.setCells (g5) (14) ([.slice D2 (restOf (C.take 4 (C.take 4 (C.take 1 (l, false)).2).2).2).length c2])).heap[g5]? = some (.cells (({ Rc.zero with kd := rk l, sl := ((C.take 4 (C.take 1 (l, false)).2).1 : Int), dt := restOf (C.take 4 (C.take 4 (C.take 1 (l, false)).2).2).2, D := D2, dc := c2 } : Rc).cells).toArray 36) := hpC ([.slice D2 (restOf (C.take 4 (C.take 4 (C.take 1 (l, false)).2).2).2).length c2]) (14) _ z11 Zv5
     have O := ogOwnC O (ogKind O Zv5 (by decide)) ([.slice D2 (restOf (C.take 4 (C.take 4 (C.take 1 (l, false)).2).2).2).length c2]) (14)
     have ee := belowC (g := g5) (by omega) ([.slice D2 (restOf (C.take 4 (C.take 4 (C.take 1 (l, false)).2).2).2).length c2]) (14) z11 ee
     have Zv2 := hpCo (g' := g5) (by omega) ([.slice D2 (restOf (C.take 4 (C.take 4 (C.take 1 (l, false)).2).2).2).length c2]) (14) z11 Zv2
     clear Zv5
     have Zv5 := N_
     clear N_
     skip
     obtain ⟨z12, hz_⟩ : ∃ z_ : World, z_ = z11.setCells (g5) (14) ([.slice D2 (restOf (C.take 4 (C.take 4 (C.take 1 (l, false)).2).2).2).length c2]) := ⟨_, rfl⟩
     rw [← hz_] at Zv2 Zv5 O ee rr tt ck ⊢
     clear hz_
     refine ⟨Zv2, ?_⟩
     try simp only [zP]
     with_reducible refine any_end ?_
     refine inBlock_normal ?_
     refine hK22 _ _ ?_
     have lk : LikeR ({ Rc.zero with kd := rk l, sl := ((C.take 4 (C.take 1 (l, false)).2).1 : Int), dt := restOf (C.take 4 (C.take 4 (C.take 1 (l, false)).2).2).2, D := D2, dc := c2 } : Rc) (rcm l) := by
      unfold T.rcm
      rw [if_neg pb18, if_neg pb19, if_neg pb26, if_pos pb28]
      exact { kd := rfl, br := rfl, bn := rfl, sl := rfl, c := SameC_self _, dt := rfl }
     refine gK6 _ _ ?_
     exact hjK6 _ _ _ _ _ _ _ _ _ _ _ _ _ _ _ _ _ _ _ _ _ _ _ _ _ _ _ _ _ _ _ _ _ _ _ _ _ _ _ _ _ ({ Rc.zero with kd := rk l, sl := ((C.take 4 (C.take 1 (l, false)).2).1 : Int), dt := restOf (C.take 4 (C.take 4 (C.take 1 (l, false)).2).2).2, D := D2, dc := c2 } : Rc) _ _ Zv2 Zv5 ee ck rfl (by show 0 < 4294967296; decide) O lk
   have pb26 : (rk l) = 3 := of_decide_eq_true hb26
   have eb26 : (rk l) = 3 := of_decide_eq_true hb26
   refine wp_cond_true (by kernel_rfl) ?_
   refine wp_region_lit ?_
   with_reducible refine wv (.pointer (some ⟨gr, 0, none⟩)) ?_
   try simp only [zP]
   have lz_Zv2 := ltAt Zv2
   have lz_Zv5 := ltAt Zv5
   have lz_rr := rr.lt.1
   have lz_B := ee.size
   with_reducible refine wc 41 #[.pointer (some ⟨gr, 0, none⟩)] (takec_fresh w.heap.size gr z7 (C.take 4 (C.take 1 (l, false)).2).2 rr tt) ?_
   rintro e z8 ⟨⟨y, rfl, hy, fy⟩, rr_, g_⟩
   refine ⟨_, rfl, ?_⟩
   have Zv2 := heapG Zv2 g_ (by omega)
   have Zv5 := heapG Zv5 g_ (by omega)
   have ee := ee.grown g_ ee.size (fun i_ h_ => by injection h_ with h_; omega)
   have tt := tt.grown g_ (by omega)
   have ck := ck.rdr g_
   clear rr g_
   have rr := rr_
   clear rr_
   have ck := CtN.newC ck fy lz_B lz_rr lz_Zv5 lz_Zv2 lz_Zv2
   try simp only [zP]
   with_reducible refine wv (.pointer (some ⟨g5, 4, none⟩)) ?_
   try simp only [zP]
   refine wpList_storeC 33 (g5) (4) (.agg (y.cells).toArray) (y.cells) (rowThere Zv5 (Nat.le_of_ble_eq_true (by kernel_rfl))) (by kernel_rfl) sizeCm (allOf (by kernel_rfl)) _ _ (by kernel_rfl) rfl (by kernel_rfl) (by kernel_rfl) ?_
   have rr := RdrAt.setN (k := g5) (by omega) (by omega) (y.cells) (4) z8 rr
   have tt := TabsAt.setN (k := g5) (by omega) (y.cells) (4) z8 tt
   have ck := ck.cells (y.cells) (4)
   have N_ : (z8.setCells (g5) (4) (y.cells)).heap[g5]? = some (.cells (({ Rc.zero with kd := rk l, sl := ((C.take 4 (C.take 1 (l, false)).2).1 : Int), c := y } : Rc).cells).toArray 36) := hpC (y.cells) (4) _ z8 Zv5
   have ee := belowC (g := g5) (by omega) (y.cells) (4) z8 ee
   have Zv2 := hpCo (g' := g5) (by omega) (y.cells) (4) z8 Zv2
   clear Zv5
   have Zv5 := N_
   clear N_
   skip
   obtain ⟨z9, hz_⟩ : ∃ z_ : World, z_ = z8.setCells (g5) (4) (y.cells) := ⟨_, rfl⟩
   rw [← hz_] at Zv2 Zv5 ee rr tt ck ⊢
   clear hz_
   try simp only [zP]
   refine wpList_nil ?_
   refine inBlock_normal ?_
   refine hK22 _ _ ?_
   have lk : LikeR ({ Rc.zero with kd := rk l, sl := ((C.take 4 (C.take 1 (l, false)).2).1 : Int), c := y } : Rc) (rcm l) := by
    unfold T.rcm
    rw [if_neg pb18, if_neg pb19, if_pos pb26]
    exact { kd := rfl, br := rfl, bn := rfl, sl := rfl, c := hy, dt := rfl }
   refine gK6 _ _ ?_
   exact hjK6 _ _ _ _ _ _ _ _ _ _ _ _ _ _ _ _ _ _ _ _ _ _ _ _ _ _ _ _ _ _ _ _ _ _ _ _ _ _ _ _ _ ({ Rc.zero with kd := rk l, sl := ((C.take 4 (C.take 1 (l, false)).2).1 : Int), c := y } : Rc) _ _ Zv2 Zv5 ee ck rfl (by show 0 < 4294967296; decide) OwnB.nil lk
  have pb19 : (rk l) = 2 := of_decide_eq_true hb19
  have eb19 : (rk l) = 2 := of_decide_eq_true hb19
  refine wp_cond_true (by kernel_rfl) ?_
  refine wp_region_lit ?_
  with_reducible
   refine wv (.pointer (some ⟨gr, 0, none⟩)) ?_
   try simp only [zP]
   refine wc 40 #[.pointer (some ⟨gr, 0, none⟩)] (btake_w w.heap.size gr (C.take 1 (l, false)).2 z5 rr) ?_
  rintro e z6 ⟨rfl, rr_, g_⟩
  refine ⟨_, rfl, ?_⟩
  have Zv2 := heapG Zv2 g_ (by omega)
  have Zv5 := heapG Zv5 g_ (by omega)
  have ee := ee.grown g_ ee.size (fun i_ h_ => by injection h_ with h_; omega)
  have tt := tt.grown g_ (by omega)
  have ck := ck.rdr g_
  clear rr g_
  have rr := rr_
  clear rr_
  try simp only [zP]
  with_reducible refine wv (.pointer (some ⟨g5, 1, none⟩)) ?_
  try simp only [zP]
  refine wpList_storeC 24 (g5) (1) (.agg ([.int .u32 ((B.take (C.take 1 (l, false)).2).1.1 : Int), .int .i64 ((B.take (C.take 1 (l, false)).2).1.2 : Int)]).toArray) ([.int .u32 ((B.take (C.take 1 (l, false)).2).1.1 : Int), .int .i64 ((B.take (C.take 1 (l, false)).2).1.2 : Int)]) (rowThere Zv5 (Nat.le_of_ble_eq_true (by kernel_rfl))) (by kernel_rfl) sizeBal (allOf (by kernel_rfl)) _ _ (by kernel_rfl) rfl (by kernel_rfl) (by kernel_rfl) ?_
  have rr := RdrAt.setN (k := g5) (by omega) (by omega) ([.int .u32 ((B.take (C.take 1 (l, false)).2).1.1 : Int), .int .i64 ((B.take (C.take 1 (l, false)).2).1.2 : Int)]) (1) z6 rr
  have tt := TabsAt.setN (k := g5) (by omega) ([.int .u32 ((B.take (C.take 1 (l, false)).2).1.1 : Int), .int .i64 ((B.take (C.take 1 (l, false)).2).1.2 : Int)]) (1) z6 tt
  have ck := ck.cells ([.int .u32 ((B.take (C.take 1 (l, false)).2).1.1 : Int), .int .i64 ((B.take (C.take 1 (l, false)).2).1.2 : Int)]) (1)
  have N_ : (z6.setCells (g5) (1) ([.int .u32 ((B.take (C.take 1 (l, false)).2).1.1 : Int), .int .i64 ((B.take (C.take 1 (l, false)).2).1.2 : Int)])).heap[g5]? = some (.cells (({ Rc.zero with kd := rk l, br := (B.take (C.take 1 (l, false)).2).1.1, bn := ((B.take (C.take 1 (l, false)).2).1.2 : Int) } : Rc).cells).toArray 36) := hpC ([.int .u32 ((B.take (C.take 1 (l, false)).2).1.1 : Int), .int .i64 ((B.take (C.take 1 (l, false)).2).1.2 : Int)]) (1) _ z6 Zv5
  have ee := belowC (g := g5) (by omega) ([.int .u32 ((B.take (C.take 1 (l, false)).2).1.1 : Int), .int .i64 ((B.take (C.take 1 (l, false)).2).1.2 : Int)]) (1) z6 ee
  have Zv2 := hpCo (g' := g5) (by omega) ([.int .u32 ((B.take (C.take 1 (l, false)).2).1.1 : Int), .int .i64 ((B.take (C.take 1 (l, false)).2).1.2 : Int)]) (1) z6 Zv2
  clear Zv5
  have Zv5 := N_
  clear N_
  skip
  obtain ⟨z7, hz_⟩ : ∃ z_ : World, z_ = z6.setCells (g5) (1) ([.int .u32 ((B.take (C.take 1 (l, false)).2).1.1 : Int), .int .i64 ((B.take (C.take 1 (l, false)).2).1.2 : Int)]) := ⟨_, rfl⟩
  rw [← hz_] at Zv2 Zv5 ee rr tt ck ⊢
  clear hz_
  try simp only [zP]
  refine wpList_nil ?_
  refine hK16 _ _ ?_
  refine wp_seq_k fun K30 hK30 => ?_
  refine wp_seq_k fun K31 hK31 => ?_
  refine wp_region_lit ?_
  with_reducible
   refine wv (.pointer (some ⟨g5, 0, none⟩)) ?_
   refine wl (.int .i64 ((rk l))) ⟨g5, 0, none⟩ (rowCell Zv5 (0) rfl) Tryz.underlying3 ?_
   refine wb (.bool true) (.int .i64 ((rk l))) (.int .i64 1) 3 (run_neqI hb18) ?_
  try simp only [zP]
  refine wpList_nil ?_
  refine hK31 _ _ ?_
  refine wp_cond_true (by kernel_rfl) ?_
  refine wp_region_lit ?_
  with_reducible
   refine wv (.pointer (some ⟨gr, 0, none⟩)) ?_
   try simp only [zP]
   refine wc 39 #[.pointer (some ⟨gr, 0, none⟩), .int .i64 4] (take_any w.heap.size gr 4 (B.take (C.take 1 (l, false)).2).2 z7 rr) ?_
  rintro e z8 ⟨rfl, rr_, g_⟩
  refine ⟨_, rfl, ?_⟩
  have Zv2 := heapG Zv2 g_ (by omega)
  have Zv5 := heapG Zv5 g_ (by omega)
  have ee := ee.grown g_ ee.size (fun i_ h_ => by injection h_ with h_; omega)
  have tt := tt.grown g_ (by omega)
  have ck := ck.rdr g_
  clear rr g_
  have rr := rr_
  clear rr_
  try simp only [zP]
  with_reducible
   refine wq (.int .i64 (((C.take 4 (B.take (C.take 1 (l, false)).2).2).1 : Int))) (okIntP ((w4 (B.take (C.take 1 (l, false)).2).2) : IntKind.i64.wrap (((C.take 4 (B.take (C.take 1 (l, false)).2).2).1 : Int)) = ((C.take 4 (B.take (C.take 1 (l, false)).2).2).1 : Int)) (by kernel_rfl)) ?_
   refine wv (.pointer (some ⟨g5, 3, none⟩)) ?_
  try simp only [zP]
  refine wpList_storeC 3 (g5) (3) (.int .i64 (((C.take 4 (B.take (C.take 1 (l, false)).2).2).1 : Int))) ([.int .i64 (((C.take 4 (B.take (C.take 1 (l, false)).2).2).1 : Int))]) (rowThere Zv5 (Nat.le_of_ble_eq_true (by kernel_rfl))) (by kernel_rfl) (by kernel_rfl) (all1 rfl) _ _ (by kernel_rfl) rfl (by kernel_rfl) (by kernel_rfl) ?_
  have rr := RdrAt.setN (k := g5) (by omega) (by omega) ([.int .i64 (((C.take 4 (B.take (C.take 1 (l, false)).2).2).1 : Int))]) (3) z8 rr
  have tt := TabsAt.setN (k := g5) (by omega) ([.int .i64 (((C.take 4 (B.take (C.take 1 (l, false)).2).2).1 : Int))]) (3) z8 tt
  have ck := ck.cells ([.int .i64 (((C.take 4 (B.take (C.take 1 (l, false)).2).2).1 : Int))]) (3)
  have N_ : (z8.setCells (g5) (3) ([.int .i64 (((C.take 4 (B.take (C.take 1 (l, false)).2).2).1 : Int))])).heap[g5]? = some (.cells (({ Rc.zero with kd := rk l, br := (B.take (C.take 1 (l, false)).2).1.1, bn := ((B.take (C.take 1 (l, false)).2).1.2 : Int), sl := ((C.take 4 (B.take (C.take 1 (l, false)).2).2).1 : Int) } : Rc).cells).toArray 36) := hpC ([.int .i64 (((C.take 4 (B.take (C.take 1 (l, false)).2).2).1 : Int))]) (3) _ z8 Zv5
  have ee := belowC (g := g5) (by omega) ([.int .i64 (((C.take 4 (B.take (C.take 1 (l, false)).2).2).1 : Int))]) (3) z8 ee
  have Zv2 := hpCo (g' := g5) (by omega) ([.int .i64 (((C.take 4 (B.take (C.take 1 (l, false)).2).2).1 : Int))]) (3) z8 Zv2
  clear Zv5
  have Zv5 := N_
  clear N_
  skip
  obtain ⟨z9, hz_⟩ : ∃ z_ : World, z_ = z8.setCells (g5) (3) ([.int .i64 (((C.take 4 (B.take (C.take 1 (l, false)).2).2).1 : Int))]) := ⟨_, rfl⟩
  rw [← hz_] at Zv2 Zv5 ee rr tt ck ⊢
  clear hz_
  try simp only [zP]
  refine wpList_nil ?_
  refine hK30 _ _ ?_
  refine wp_seq_k fun K32 hK32 => ?_
  refine wp_seq_k fun K33 hK33 => ?_
  refine wp_region_lit ?_
  with_reducible
   refine wv (.pointer (some ⟨g5, 0, none⟩)) ?_
   refine wl (.int .i64 ((rk l))) ⟨g5, 0, none⟩ (rowCell Zv5 (0) rfl) Tryz.underlying3 ?_
  try simp only [zP]
  refine wpList_nil ?_
  refine hK33 _ _ ?_
  refine wp_block ?_
  refine wp_seq_k fun K34 hK34 => ?_
  refine wp_seq_k fun K35 hK35 => ?_
  refine wp_region_lit ?_
  with_reducible
   refine wb (.bool true) (.int .i64 ((rk l))) (.int .i64 2) 3 (run_eqlI hb19) ?_
   refine wv (.bool true) ?_
  try simp only [zP]
  refine wpList_nil ?_
  refine hK35 _ _ ?_
  refine wp_cond_true (by kernel_rfl) ?_
  refine wp_skip ?_
  refine hK34 _ _ ?_
  refine wp_cond_true (by kernel_rfl) ?_
  refine wp_region_lit ?_
  with_reducible refine wv (.pointer (some ⟨gr, 0, none⟩)) ?_
  try simp only [zP]
  have lz_Zv2 := ltAt Zv2
  have lz_Zv5 := ltAt Zv5
  have lz_rr := rr.lt.1
  have lz_B := ee.size
  with_reducible refine wc 41 #[.pointer (some ⟨gr, 0, none⟩)] (takec_fresh w.heap.size gr z9 (C.take 4 (B.take (C.take 1 (l, false)).2).2).2 rr tt) ?_
  rintro e z10 ⟨⟨y, rfl, hy, fy⟩, rr_, g_⟩
  refine ⟨_, rfl, ?_⟩
  have Zv2 := heapG Zv2 g_ (by omega)
  have Zv5 := heapG Zv5 g_ (by omega)
  have ee := ee.grown g_ ee.size (fun i_ h_ => by injection h_ with h_; omega)
  have tt := tt.grown g_ (by omega)
  have ck := ck.rdr g_
  clear rr g_
  have rr := rr_
  clear rr_
  have ck := CtN.newC ck fy lz_B lz_rr lz_Zv5 lz_Zv2 lz_Zv2
  try simp only [zP]
  with_reducible refine wv (.pointer (some ⟨g5, 4, none⟩)) ?_
  try simp only [zP]
  refine wpList_storeC 33 (g5) (4) (.agg (y.cells).toArray) (y.cells) (rowThere Zv5 (Nat.le_of_ble_eq_true (by kernel_rfl))) (by kernel_rfl) sizeCm (allOf (by kernel_rfl)) _ _ (by kernel_rfl) rfl (by kernel_rfl) (by kernel_rfl) ?_
  have rr := RdrAt.setN (k := g5) (by omega) (by omega) (y.cells) (4) z10 rr
  have tt := TabsAt.setN (k := g5) (by omega) (y.cells) (4) z10 tt
  have ck := ck.cells (y.cells) (4)
  have N_ : (z10.setCells (g5) (4) (y.cells)).heap[g5]? = some (.cells (({ Rc.zero with kd := rk l, br := (B.take (C.take 1 (l, false)).2).1.1, bn := ((B.take (C.take 1 (l, false)).2).1.2 : Int), sl := ((C.take 4 (B.take (C.take 1 (l, false)).2).2).1 : Int), c := y } : Rc).cells).toArray 36) := hpC (y.cells) (4) _ z10 Zv5
  have ee := belowC (g := g5) (by omega) (y.cells) (4) z10 ee
  have Zv2 := hpCo (g' := g5) (by omega) (y.cells) (4) z10 Zv2
  clear Zv5
  have Zv5 := N_
  clear N_
  skip
  obtain ⟨z11, hz_⟩ : ∃ z_ : World, z_ = z10.setCells (g5) (4) (y.cells) := ⟨_, rfl⟩
  rw [← hz_] at Zv2 Zv5 ee rr tt ck ⊢
  clear hz_
  try simp only [zP]
  refine wpList_nil ?_
  refine inBlock_normal ?_
  refine hK32 _ _ ?_
  have lk : LikeR ({ Rc.zero with kd := rk l, br := (B.take (C.take 1 (l, false)).2).1.1, bn := ((B.take (C.take 1 (l, false)).2).1.2 : Int), sl := ((C.take 4 (B.take (C.take 1 (l, false)).2).2).1 : Int), c := y } : Rc) (rcm l) := by
   unfold T.rcm
   rw [if_neg pb18, if_pos pb19]
   exact { kd := rfl, br := rfl, bn := rfl, sl := rfl, c := hy, dt := rfl }
  refine gK6 _ _ ?_
  exact hjK6 _ _ _ _ _ _ _ _ _ _ _ _ _ _ _ _ _ _ _ _ _ _ _ _ _ _ _ _ _ _ _ _ _ _ _ _ _ _ _ _ _ ({ Rc.zero with kd := rk l, br := (B.take (C.take 1 (l, false)).2).1.1, bn := ((B.take (C.take 1 (l, false)).2).1.2 : Int), sl := ((C.take 4 (B.take (C.take 1 (l, false)).2).2).1 : Int), c := y } : Rc) _ _ Zv2 Zv5 ee ck rfl (btake_lt _).1 OwnB.nil lk
 have pb18 : (rk l) = 1 := of_decide_eq_true hb18
 have eb18 : (rk l) = 1 := of_decide_eq_true hb18
 iterate 3 (with_reducible refine wk ?_)
 with_reducible refine wv (.bool true) ?_
 try simp only [zP]
 refine wpList_nil ?_
 refine hK17 _ _ ?_
 refine wp_cond_true (by kernel_rfl) ?_
 refine wp_region_lit ?_
 with_reducible
  refine wv (.pointer (some ⟨gr, 0, none⟩)) ?_
  try simp only [zP]
  refine wc 40 #[.pointer (some ⟨gr, 0, none⟩)] (btake_w w.heap.size gr (C.take 1 (l, false)).2 z5 rr) ?_
 rintro e z6 ⟨rfl, rr_, g_⟩
 refine ⟨_, rfl, ?_⟩
 have Zv2 := heapG Zv2 g_ (by omega)
 have Zv5 := heapG Zv5 g_ (by omega)
 have ee := ee.grown g_ ee.size (fun i_ h_ => by injection h_ with h_; omega)
 have tt := tt.grown g_ (by omega)
 have ck := ck.rdr g_
 clear rr g_
 have rr := rr_
 clear rr_
 try simp only [zP]
 with_reducible refine wv (.pointer (some ⟨g5, 1, none⟩)) ?_
 try simp only [zP]
 refine wpList_storeC 24 (g5) (1) (.agg ([.int .u32 ((B.take (C.take 1 (l, false)).2).1.1 : Int), .int .i64 ((B.take (C.take 1 (l, false)).2).1.2 : Int)]).toArray) ([.int .u32 ((B.take (C.take 1 (l, false)).2).1.1 : Int), .int .i64 ((B.take (C.take 1 (l, false)).2).1.2 : Int)]) (rowThere Zv5 (Nat.le_of_ble_eq_true (by kernel_rfl))) (by kernel_rfl) sizeBal (allOf (by kernel_rfl)) _ _ (by kernel_rfl) rfl (by kernel_rfl) (by kernel_rfl) ?_
 have rr := RdrAt.setN (k := g5) (by omega) (by omega) ([.int .u32 ((B.take (C.take 1 (l, false)).2).1.1 : Int), .int .i64 ((B.take (C.take 1 (l, false)).2).1.2 : Int)]) (1) z6 rr
 have tt := TabsAt.setN (k := g5) (by omega) ([.int .u32 ((B.take (C.take 1 (l, false)).2).1.1 : Int), .int .i64 ((B.take (C.take 1 (l, false)).2).1.2 : Int)]) (1) z6 tt
 have ck := ck.cells ([.int .u32 ((B.take (C.take 1 (l, false)).2).1.1 : Int), .int .i64 ((B.take (C.take 1 (l, false)).2).1.2 : Int)]) (1)
 have N_ : (z6.setCells (g5) (1) ([.int .u32 ((B.take (C.take 1 (l, false)).2).1.1 : Int), .int .i64 ((B.take (C.take 1 (l, false)).2).1.2 : Int)])).heap[g5]? = some (.cells (({ Rc.zero with kd := rk l, br := (B.take (C.take 1 (l, false)).2).1.1, bn := ((B.take (C.take 1 (l, false)).2).1.2 : Int) } : Rc).cells).toArray 36) := hpC ([.int .u32 ((B.take (C.take 1 (l, false)).2).1.1 : Int), .int .i64 ((B.take (C.take 1 (l, false)).2).1.2 : Int)]) (1) _ z6 Zv5
 have ee := belowC (g := g5) (by omega) ([.int .u32 ((B.take (C.take 1 (l, false)).2).1.1 : Int), .int .i64 ((B.take (C.take 1 (l, false)).2).1.2 : Int)]) (1) z6 ee
 have Zv2 := hpCo (g' := g5) (by omega) ([.int .u32 ((B.take (C.take 1 (l, false)).2).1.1 : Int), .int .i64 ((B.take (C.take 1 (l, false)).2).1.2 : Int)]) (1) z6 Zv2
 clear Zv5
 have Zv5 := N_
 clear N_
 skip
 obtain ⟨z7, hz_⟩ : ∃ z_ : World, z_ = z6.setCells (g5) (1) ([.int .u32 ((B.take (C.take 1 (l, false)).2).1.1 : Int), .int .i64 ((B.take (C.take 1 (l, false)).2).1.2 : Int)]) := ⟨_, rfl⟩
 rw [← hz_] at Zv2 Zv5 ee rr tt ck ⊢
 clear hz_
 try simp only [zP]
 refine wpList_nil ?_
 refine hK16 _ _ ?_
 refine wp_seq_k fun K36 hK36 => ?_
 refine wp_seq_k fun K37 hK37 => ?_
 refine wp_region_lit ?_
 with_reducible
  refine wv (.pointer (some ⟨g5, 0, none⟩)) ?_
  refine wl (.int .i64 ((rk l))) ⟨g5, 0, none⟩ (rowCell Zv5 (0) rfl) Tryz.underlying3 ?_
  refine wb (.bool false) (.int .i64 ((rk l))) (.int .i64 1) 3 (run_neqI hb18) ?_
 try simp only [zP]
 refine wpList_nil ?_
 refine hK37 _ _ ?_
 refine wp_cond_false (by kernel_rfl) ?_
 refine wp_skip ?_
 refine hK36 _ _ ?_
 refine wp_seq_k fun K38 hK38 => ?_
 refine wp_seq_k fun K39 hK39 => ?_
 refine wp_region_lit ?_
 with_reducible
  refine wv (.pointer (some ⟨g5, 0, none⟩)) ?_
  refine wl (.int .i64 ((rk l))) ⟨g5, 0, none⟩ (rowCell Zv5 (0) rfl) Tryz.underlying3 ?_
 try simp only [zP]
 refine wpList_nil ?_
 refine hK39 _ _ ?_
 refine wp_block ?_
 refine wp_seq_k fun K40 hK40 => ?_
 refine wp_seq_k fun K41 hK41 => ?_
 refine wp_region_lit ?_
 with_reducible
  refine wb (.bool false) (.int .i64 ((rk l))) (.int .i64 2) 3 (run_eqlI (show (decide ((rk l) = 2)) = false from by rw [eb18]; decide)) ?_
  refine wv (.bool false) ?_
 try simp only [zP]
 refine wpList_nil ?_
 refine hK41 _ _ ?_
 refine wp_cond_false (by kernel_rfl) ?_
 refine wp_region_lit ?_
 with_reducible
  refine wb (.bool false) (.int .i64 ((rk l))) (.int .i64 3) 3 (run_eqlI (show (decide ((rk l) = 3)) = false from by rw [eb18]; decide)) ?_
  refine wv (.bool false) ?_
 try simp only [zP]
 refine wpList_nil ?_
 refine hK40 _ _ ?_
 refine wp_cond_false (by kernel_rfl) ?_
 refine wp_seq_k fun K42 hK42 => ?_
 refine wp_region_lit ?_
 with_reducible
  refine wb (.bool false) (.int .i64 ((rk l))) (.int .i64 4) 3 (run_eqlI (show (decide ((rk l) = 4)) = false from by rw [eb18]; decide)) ?_
  refine wv (.bool false) ?_
 try simp only [zP]
 refine wpList_nil ?_
 refine hK42 _ _ ?_
 refine wp_cond_false (by kernel_rfl) ?_
 refine wp_skip ?_
 refine inBlock_normal ?_
 refine hK38 _ _ ?_
 have lk : LikeR ({ Rc.zero with kd := rk l, br := (B.take (C.take 1 (l, false)).2).1.1, bn := ((B.take (C.take 1 (l, false)).2).1.2 : Int) } : Rc) (rcm l) := by
  unfold T.rcm
  rw [if_pos pb18]
  exact { kd := rfl, br := rfl, bn := rfl, sl := rfl, c := SameC_self _, dt := rfl }
 refine gK6 _ _ ?_
 exact hjK6 _ _ _ _ _ _ _ _ _ _ _ _ _ _ _ _ _ _ _ _ _ _ _ _ _ _ _ _ _ _ _ _ _ _ _ _ _ _ _ _ _ ({ Rc.zero with kd := rk l, br := (B.take (C.take 1 (l, false)).2).1.1, bn := ((B.take (C.take 1 (l, false)).2).1.2 : Int) } : Rc) _ _ Zv2 Zv5 ee ck rfl (btake_lt _).1 OwnB.nil lk
end Go.Proofs.YtjofjpmhokjhnaaGreatDoor
