import Derived.Test.YtjofjpmhokjhnaaGreatDoorWfM13
import Derived.Test.YtjofjpmhokjhnaaGreatDoorWfM39
import Derived.Test.YtjofjpmhokjhnaaGreatDoorWfM43
set_option linter.unusedSimpArgs false
set_option linter.unusedVariables false
namespace Go.Proofs.YtjofjpmhokjhnaaGreatDoor
set_option maxRecDepth 20000
open Go.RowKit T
theorem run_neqBB {w : World} (b : Bool) : (binOp .neq 4 (.bool b) (.bool b)).run Tryz.prog w = .ok (.bool false) w := match b with
 | true => by kernel_rfl
 | false => by kernel_rfl
theorem rowTwo {w : World} {g : Nat} {x y : Rc} (h : w.heap[g]? = some (.cells (x.cells ++ y.cells).toArray 36 (0, 0))) : RowsAt w w.heap.size (some ⟨g, 0, none⟩) 15 ([x, y].map Rc.cells) := fun i cs hi => by
 have hg := (Array.getElem?_eq_some_iff.1 h).1
 match i, hi with
 | 0, hi =>
   simp at hi; subst hi
   exact ⟨g, 0, rfl, hg, fun j u hu => by
    have hj := (List.getElem?_eq_some_iff.1 hu).1
    have := rowAt h j u (by rw [List.getElem?_append_left hj]; exact hu)
    simpa using this⟩
 | 1, hi =>
   simp at hi; subst hi
   exact ⟨g, 0, rfl, hg, fun j u hu => by
    have hx : x.cells.length = 15 := rfl
    have := rowAt h (15 + j) u (by rw [List.getElem?_append_right (by omega), hx, Nat.add_sub_cancel_left]; exact hu)
    simpa using this⟩
theorem few_two (x y : Rc) (g : Nat) (w : World) (hz : w.heap[g]? = some (.cells (x.cells ++ y.cells).toArray 36 (0, 0))) (okx : RcOk w w.heap.size x) (oky : RcOk w w.heap.size y) : Calls Tryz.prog 7 #[.slice (some ⟨g, 0, none⟩) 2 2, .int .i64 2] w fun e w' => FewIs (x.dt.length ≤ 200000 ∧ y.dt.length ≤ 200000) e ∧ Below w.heap.size w w' :=
 (few13_any (some ⟨g, 0, none⟩) 2 [x, y] 2 w (by decide) (Nat.le_refl _) (by unfold maxLen; decide) (rowTwo hz) (fun z hz => by
  rcases List.mem_cons.1 hz with rfl | hz
  ·exact okx
  ·rw [List.mem_singleton.1 hz]; exact oky)).mono fun e w' q => by
  obtain ⟨⟨r, h1, h2⟩, h3⟩ := q
  exact ⟨⟨r, h1, fun hr => by
   have := (h2 hr).2
   unfold dsum at this
   have e : x.dt.length + y.dt.length ≤ 200000 := by simpa using this
   omega⟩, h3⟩
theorem samed_e {w : World} {B1 B2 : Nat} {v u : Value} {l m : List UInt8} (h : SlB w B1 v l) (g : SlB w B2 u m) (hl : l.length ≤ 1099511627776) (e : l = m) : Calls Tryz.prog 17 #[v, u] w fun e w' => e = .returned (.bool true) ∧ Below w.heap.size w w' := by
 subst e
 have q := samed_s h g hl hl
 rw [decide_eq_true rfl] at q
 exact q
theorem wsame_self (x : Rc) (w : World) (B0 : Nat) (hB : B0 ≤ w.heap.size) (ok : RcOk w B0 x) : Calls Tryz.prog 15 #[.agg x.cells.toArray, .agg x.cells.toArray] w fun e w' => e = .returned (.bool true) ∧ Below w.heap.size w w' := by
 have q := wsame_any x x w B0 hB ok ok
 rw [sameR (LikeR.refl x)] at q
 exact q
set_option maxHeartbeats 25600000 in
theorem wforms_any (x y : Rc) (A : Option Addr) (cp : Nat) (l : List UInt8) (w : World) (okx : RcOk w w.heap.size x) (oky : RcOk w w.heap.size y) (hb : SlB w w.heap.size (.slice A l.length cp) l) (hlc : l.length ≤ cp) (hT : Tabs w) :
 Calls Tryz.prog 3 #[.agg x.cells.toArray, .agg y.cells.toArray, .slice A l.length cp] w fun e w' => e = .returned (.bool true) ∧ Below w.heap.size w w' := by
 have ee : Below w.heap.size w w := Below.refl _ _
 go_enter Tryz.func3, Tryz.ntmps3
 refine wp_seq_k fun K1 hK1 => ?_
 refine wp_region_lit ?_
 with_reducible refine ww (.pointer (some ⟨w.heap.size, 0, none⟩)) (w.alloc (.cells (x.cells).toArray 36)) ?_
 try simp only [zP]
 have sz_g2 := ee.size
 have sz_ := ee.size
 have ee := ee.alloc ee.size (.cells (x.cells).toArray 36)
 have Zb3 := hpN w (.cells (x.cells).toArray 36) rfl
 obtain ⟨z1, hz_⟩ : ∃ z_ : World, z_ = w.alloc (.cells (x.cells).toArray 36) := ⟨_, rfl⟩
 rw [← hz_] at Zb3 ee ⊢
 clear hz_
 obtain ⟨g2, hg_g2⟩ : ∃ g_, g_ = w.heap.size := ⟨_, rfl⟩
 have hB_g2 : w.heap.size ≤ g2 := by rw [hg_g2]; exact sz_g2
 rw [← hg_g2] at Zb3 ⊢
 clear hg_g2
 with_reducible refine ww (.pointer (some ⟨z1.heap.size, 0, none⟩)) (z1.alloc (.cells (y.cells).toArray 36)) ?_
 try simp only [zP]
 have sz_g3 := ee.size
 have lZb3 := (Array.getElem?_eq_some_iff.1 Zb3).1
 have sz_ := ee.size
 have Zb3 := hpA Zb3 (.cells (y.cells).toArray 36)
 have ee := ee.alloc ee.size (.cells (y.cells).toArray 36)
 have Zb4 := hpN z1 (.cells (y.cells).toArray 36) rfl
 obtain ⟨z2, hz_⟩ : ∃ z_ : World, z_ = z1.alloc (.cells (y.cells).toArray 36) := ⟨_, rfl⟩
 rw [← hz_] at Zb3 Zb4 ee ⊢
 clear hz_
 obtain ⟨g3, hg_g3⟩ : ∃ g_, g_ = z1.heap.size := ⟨_, rfl⟩
 have n_g3_Zb3 : g2 < g3 := by rw [hg_g3]; exact lZb3
 have hB_g3 : w.heap.size ≤ g3 := by rw [hg_g3]; exact sz_g3
 rw [← hg_g3] at Zb4 ⊢
 clear hg_g3 lZb3
 with_reducible refine wv (.bool false) ?_
 try simp only [zP]
 refine wpList_nil ?_
 refine hK1 _ _ ?_
 refine wp_seq_k fun K4 hK4 => ?_
 refine wp_seq_k fun K5 hK5 => ?_
 refine wp_region_lit ?_
 with_reducible refine wc 6 #[] (awake13_any z2 (hT.below ee)) ?_
 rintro e z3 ⟨rfl, t⟩
 refine ⟨_, rfl, ?_⟩
 have Zb3 := hpB Zb3 t
 have Zb4 := hpB Zb4 t
 have ee := ee.trans (t.mono ee.size)
 clear t
 try simp only [zP]
 iterate 2 (with_reducible refine wv (.bool false) ?_)
 with_reducible
  refine wg (g2) (0) (x.cells) (rowAt Zb3) Tryz.underlying36 ?_
  refine wg (g3) (0) (y.cells) (rowAt Zb4) Tryz.underlying36 ?_
  refine ww (.slice (some ⟨z3.heap.size, 0, none⟩) 2 2) (z3.alloc (.cells (x.cells ++ y.cells).toArray 36)) ?_
 try simp only [zP]
 have sz_g6 := ee.size
 have lZb3 := (Array.getElem?_eq_some_iff.1 Zb3).1
 have lZb4 := (Array.getElem?_eq_some_iff.1 Zb4).1
 have sz_ := ee.size
 have Zb3 := hpA Zb3 (.cells (x.cells ++ y.cells).toArray 36)
 have Zb4 := hpA Zb4 (.cells (x.cells ++ y.cells).toArray 36)
 have ee := ee.alloc ee.size (.cells (x.cells ++ y.cells).toArray 36)
 have Zs20 := hpN z3 (.cells (x.cells ++ y.cells).toArray 36) rfl
 obtain ⟨z4, hz_⟩ : ∃ z_ : World, z_ = z3.alloc (.cells (x.cells ++ y.cells).toArray 36) := ⟨_, rfl⟩
 rw [← hz_] at Zb3 Zb4 Zs20 ee ⊢
 clear hz_
 obtain ⟨g6, hg_g6⟩ : ∃ g_, g_ = z3.heap.size := ⟨_, rfl⟩
 have n_g6_Zb3 : g2 < g6 := by rw [hg_g6]; exact lZb3
 have n_g6_Zb4 : g3 < g6 := by rw [hg_g6]; exact lZb4
 have hB_g6 : w.heap.size ≤ g6 := by rw [hg_g6]; exact sz_g6
 rw [← hg_g6] at Zs20 ⊢
 clear hg_g6 lZb3 lZb4
 with_reducible refine wc 7 #[.slice (some ⟨g6, 0, none⟩) 2 2, .int .i64 2] (few_two x y g6 z4 Zs20 ((okx.below ee (Nat.le_refl _)).more ee.size) ((oky.below ee (Nat.le_refl _)).more ee.size)) ?_
 rintro e z5 ⟨⟨rf1, rfl, hfw1⟩, t⟩
 refine ⟨_, rfl, ?_⟩
 have Zb3 := hpB Zb3 t
 have Zb4 := hpB Zb4 t
 have Zs20 := hpB Zs20 t
 have ee := ee.trans (t.mono ee.size)
 clear t
 try simp only [zP]
 cases rf1
 ·with_reducible refine wv (.bool true) ?_
  try simp only [zP]
  iterate 2 (with_reducible refine wv (.bool true) ?_)
  iterate 3 (with_reducible refine wk ?_)
  with_reducible refine wv (.bool true) ?_
  try simp only [zP]
  refine wpList_nil ?_
  refine hK5 _ _ ?_
  refine wp_cond_true (by kernel_rfl) ?_
  refine wp_seq_k fun K7 hK7 => ?_
  refine wp_region_lit ?_
  with_reducible refine wc 6 #[] (awake13_any z5 (hT.below ee)) ?_
  rintro e z6 ⟨rfl, t⟩
  refine ⟨_, rfl, ?_⟩
  have Zb3 := hpB Zb3 t
  have Zb4 := hpB Zb4 t
  have Zs20 := hpB Zs20 t
  have ee := ee.trans (t.mono ee.size)
  clear t
  try simp only [zP]
  with_reducible refine wv (.bool true) ?_
  try simp only [zP]
  refine wpList_nil ?_
  refine hK7 _ _ ?_
  refine wp_ret ?_
  refine then_ret ?_
  exact bodyPost_ret (v := .bool true) (by kernel_rfl) rfl ⟨rfl, ee⟩
 iterate 3 (with_reducible refine wv (.bool false) ?_)
 with_reducible
  refine wv (.slice A l.length cp) ?_
  refine wv (.int .i64 ((l.length : Int))) ?_
 try simp only [zP]
 obtain ⟨b8, hb8⟩ : ∃ d_ : Bool, (decide ((l.length : Int) > 70000)) = d_ := ⟨_, rfl⟩
 with_reducible
  refine wb (.bool b8) (.int .i64 ((l.length : Int))) (.int .i64 70000) 3 (run_gtrI hb8) ?_
  refine wv (.bool b8) ?_
 try simp only [zP]
 refine wpList_nil ?_
 refine hK5 _ _ ?_
 cases b8
 ·have pb8 : ¬ ((l.length : Int) > 70000) := of_decide_eq_false hb8
  refine wp_cond_false (by kernel_rfl) ?_
  refine wp_skip ?_
  refine hK4 _ _ ?_
  refine wp_seq_k fun K9 hK9 => ?_
  refine wp_region_lit ?_
  with_reducible
   refine wg (g2) (0) (x.cells) (rowAt Zb3) Tryz.underlying36 ?_
   try simp only [zP]
   refine wc 8 #[.agg (x.cells).toArray] (wwrite_any x z5 w.heap.size ee.size (okx.below ee (Nat.le_refl _)) (Nat.le_trans (hfw1 rfl).1 (by decide)) (hT.below ee)) ?_
  rintro e z6 ⟨⟨v1, l1, x1, rfl, s1, hx1, hl1⟩, t⟩
  refine ⟨_, rfl, ?_⟩
  have Zb3 := hpB Zb3 t
  have Zb4 := hpB Zb4 t
  have Zs20 := hpB Zs20 t
  have ee := ee.trans (t.mono ee.size)
  clear t
  have e1 := Below.refl z6.heap.size z6
  try simp only [zP]
  with_reducible
   refine wv (.tuple #[v1, .int .i64 x1]) ?_
   iterate 2 ((refine wv (v1) ?_);(refine wv (.int .i64 x1) ?_))
  try simp only [zP]
  refine wpList_nil ?_
  refine hK9 _ _ ?_
  refine wp_seq_k fun K10 hK10 => ?_
  refine wp_region_lit ?_
  with_reducible
   refine wg (g2) (0) (x.cells) (rowAt Zb3) Tryz.underlying36 ?_
   try simp only [zP]
   refine wc 10 #[.agg (x.cells).toArray] (rplain_any x z6) ?_
  rintro e z7 ⟨rfl, t⟩
  refine ⟨_, rfl, ?_⟩
  have Zb3 := hpB Zb3 t
  have Zb4 := hpB Zb4 t
  have Zs20 := hpB Zs20 t
  have ee := ee.trans (t.mono ee.size)
  have e1 := e1.trans (t.mono e1.size)
  clear t
  try simp only [zP]
  with_reducible refine wc 9 #[.agg (x.cells).toArray] (rwwrite_any x z7 w.heap.size ee.size (okx.below ee (Nat.le_refl _)) (Nat.le_trans (hfw1 rfl).1 (by decide))) ?_
  rintro e z8 ⟨⟨v2, l2, x2, rfl, O2, hx2, hl2⟩, t⟩
  refine ⟨_, rfl, ?_⟩
  have s2 := SlB.ofOwn O2
  clear O2
  have Zb3 := hpB Zb3 t
  have Zb4 := hpB Zb4 t
  have Zs20 := hpB Zs20 t
  have ee := ee.trans (t.mono ee.size)
  have e1 := e1.trans (t.mono e1.size)
  clear t
  have e2 := Below.refl z8.heap.size z8
  have hx12 : x1 = x2 := by rw [hx1, hx2]
  have hl12 : l1 = l2 := by rw [hl1, hl2]
  have hlb : l1.length ≤ 1099511627776 := by
   rw [hl1]
   cases hf : x.formed with
   | false => simp
   | true => rw [cond_true]; exact Nat.le_trans (rcwr_len hf).2 (by decide)
  try simp only [zP]
  with_reducible
   refine wv (.tuple #[v2, .int .i64 x2]) ?_
   iterate 2 ((refine wv (v2) ?_);(refine wv (.int .i64 x2) ?_))
  try simp only [zP]
  refine wpList_nil ?_
  refine hK10 _ _ ?_
  refine wp_seq_k fun K11 hK11 => ?_
  refine wp_region_lit ?_
  with_reducible
   refine wv (.slice A l.length cp) ?_
   try simp only [zP]
   refine wc 11 #[.slice A l.length cp] (wread_any A cp l z8 ((hb.belowM ee (Nat.le_refl _)).more ee.size) (by omega) (hT.below ee)) ?_
  rintro e z9 ⟨⟨n, x3, rfl, hn, hx3, lk3⟩, t⟩
  refine ⟨_, rfl, ?_⟩
  have okn := hn.out
  have Zb3 := hpB Zb3 t
  have Zb4 := hpB Zb4 t
  have Zs20 := hpB Zs20 t
  have ee := ee.trans (t.mono ee.size)
  have e1 := e1.trans (t.mono e1.size)
  have e2 := e2.trans (t.mono e2.size)
  clear t
  have en := Below.refl z9.heap.size z9
  try simp only [zP]
  with_reducible
   refine wv (.tuple #[.agg (n.cells).toArray, .int .i64 x3]) ?_
   refine wv (.agg (n.cells).toArray) ?_
   refine wv (.int .i64 x3) ?_
   refine ww (.pointer (some ⟨z9.heap.size, 0, none⟩)) (z9.alloc (.cells #[.int .i64 0, .int .u32 0, .int .i64 0, .int .i64 0, .int .i64 0, .int .i64 0, .int .i64 0, .slice none 0 0, .slice none 0 0, .int .i64 0, .int .i64 0, .int .i64 0, .int .u64 0, .bool false, .slice none 0 0] 36)) ?_
  try simp only [zP]
  have sz_g12 := ee.size
  have sz_g12_e1 := e1.size
  have sz_g12_e2 := e2.size
  have sz_g12_en := en.size
  have lZb3 := (Array.getElem?_eq_some_iff.1 Zb3).1
  have lZb4 := (Array.getElem?_eq_some_iff.1 Zb4).1
  have lZs20 := (Array.getElem?_eq_some_iff.1 Zs20).1
  have sz_ := ee.size
  have Zb3 := hpA Zb3 (.cells #[.int .i64 0, .int .u32 0, .int .i64 0, .int .i64 0, .int .i64 0, .int .i64 0, .int .i64 0, .slice none 0 0, .slice none 0 0, .int .i64 0, .int .i64 0, .int .i64 0, .int .u64 0, .bool false, .slice none 0 0] 36)
  have Zb4 := hpA Zb4 (.cells #[.int .i64 0, .int .u32 0, .int .i64 0, .int .i64 0, .int .i64 0, .int .i64 0, .int .i64 0, .slice none 0 0, .slice none 0 0, .int .i64 0, .int .i64 0, .int .i64 0, .int .u64 0, .bool false, .slice none 0 0] 36)
  have Zs20 := hpA Zs20 (.cells #[.int .i64 0, .int .u32 0, .int .i64 0, .int .i64 0, .int .i64 0, .int .i64 0, .int .i64 0, .slice none 0 0, .slice none 0 0, .int .i64 0, .int .i64 0, .int .i64 0, .int .u64 0, .bool false, .slice none 0 0] 36)
  have ee := ee.alloc ee.size (.cells #[.int .i64 0, .int .u32 0, .int .i64 0, .int .i64 0, .int .i64 0, .int .i64 0, .int .i64 0, .slice none 0 0, .slice none 0 0, .int .i64 0, .int .i64 0, .int .i64 0, .int .u64 0, .bool false, .slice none 0 0] 36)
  have e1 := e1.alloc e1.size (.cells #[.int .i64 0, .int .u32 0, .int .i64 0, .int .i64 0, .int .i64 0, .int .i64 0, .int .i64 0, .slice none 0 0, .slice none 0 0, .int .i64 0, .int .i64 0, .int .i64 0, .int .u64 0, .bool false, .slice none 0 0] 36)
  have e2 := e2.alloc e2.size (.cells #[.int .i64 0, .int .u32 0, .int .i64 0, .int .i64 0, .int .i64 0, .int .i64 0, .int .i64 0, .slice none 0 0, .slice none 0 0, .int .i64 0, .int .i64 0, .int .i64 0, .int .u64 0, .bool false, .slice none 0 0] 36)
  have en := en.alloc en.size (.cells #[.int .i64 0, .int .u32 0, .int .i64 0, .int .i64 0, .int .i64 0, .int .i64 0, .int .i64 0, .slice none 0 0, .slice none 0 0, .int .i64 0, .int .i64 0, .int .i64 0, .int .u64 0, .bool false, .slice none 0 0] 36)
  have Zv11 := hpN z9 (.cells #[.int .i64 0, .int .u32 0, .int .i64 0, .int .i64 0, .int .i64 0, .int .i64 0, .int .i64 0, .slice none 0 0, .slice none 0 0, .int .i64 0, .int .i64 0, .int .i64 0, .int .u64 0, .bool false, .slice none 0 0] 36) rfl
  obtain ⟨z10, hz_⟩ : ∃ z_ : World, z_ = z9.alloc (.cells #[.int .i64 0, .int .u32 0, .int .i64 0, .int .i64 0, .int .i64 0, .int .i64 0, .int .i64 0, .slice none 0 0, .slice none 0 0, .int .i64 0, .int .i64 0, .int .i64 0, .int .u64 0, .bool false, .slice none 0 0] 36) := ⟨_, rfl⟩
  rw [← hz_] at Zb3 Zb4 Zs20 Zv11 ee e1 e2 en ⊢
  clear hz_
  obtain ⟨g12, hg_g12⟩ : ∃ g_, g_ = z9.heap.size := ⟨_, rfl⟩
  have n_g12_Zb3 : g2 < g12 := by rw [hg_g12]; exact lZb3
  have n_g12_Zb4 : g3 < g12 := by rw [hg_g12]; exact lZb4
  have n_g12_Zs20 : g6 < g12 := by rw [hg_g12]; exact lZs20
  have hB_g12 : w.heap.size ≤ g12 := by rw [hg_g12]; exact sz_g12
  have hB_g12_e1 : z6.heap.size ≤ g12 := by rw [hg_g12]; exact sz_g12_e1
  have hB_g12_e2 : z8.heap.size ≤ g12 := by rw [hg_g12]; exact sz_g12_e2
  have hB_g12_en : z9.heap.size ≤ g12 := by rw [hg_g12]; exact sz_g12_en
  rw [← hg_g12] at Zv11 ⊢
  clear hg_g12 lZb3 lZb4 lZs20
  refine wpList_store_row rfl 36 _ _ rfl (g12) (n.cells).toArray rfl rfl 36 _ Zv11 sizeRc (by rfl) (Rc.one _) ?_
  have N_ := setRow_heap z10 (g12) _ (n.cells).toArray _ _ Zv11
  have ee := belowSet (cs := (n.cells).toArray) ee Zv11 (by omega)
  have e1 := belowSet (cs := (n.cells).toArray) e1 Zv11 (by omega)
  have e2 := belowSet (cs := (n.cells).toArray) e2 Zv11 (by omega)
  have en := belowSet (cs := (n.cells).toArray) en Zv11 (by omega)
  have Zb3 := hpR Zb3 (g' := g12) (by omega) (n.cells).toArray
  have Zb4 := hpR Zb4 (g' := g12) (by omega) (n.cells).toArray
  have Zs20 := hpR Zs20 (g' := g12) (by omega) (n.cells).toArray
  clear Zv11
  have Zv11 := N_
  clear N_
  obtain ⟨z11, hz_⟩ : ∃ z_ : World, z_ = z10.setRow (g12) (n.cells).toArray := ⟨_, rfl⟩
  rw [← hz_] at Zb3 Zb4 Zs20 Zv11 ee e1 e2 en ⊢
  clear hz_
  try simp only [zP]
  with_reducible refine wv (.int .i64 x3) ?_
  try simp only [zP]
  refine wpList_nil ?_
  refine hK11 _ _ ?_
  refine wp_seq_k fun K13 hK13 => ?_
  refine wp_region_lit ?_
  with_reducible
   refine wv (.slice A l.length cp) ?_
   try simp only [zP]
   refine wc 12 #[.slice A l.length cp] (rwread_any A cp l z11 ((hb.belowM ee (Nat.le_refl _)).more ee.size) (by omega) hlc) ?_
  rintro e z12 ⟨⟨m, x4, rfl, okm, hx4, lk4⟩, t⟩
  refine ⟨_, rfl, ?_⟩
  obtain ⟨hbo, hlnm⟩ := both_read okn okm lk3 lk4
  have hx34 : x3 = x4 := by rw [hx3, hx4, hbo]
  have hndt : n.dt.length ≤ 1099511627776 := by
   rw [lk3.dt]
   cases hq : rcok l with
   | false => exact Nat.zero_le _
   | true => exact Nat.le_trans (rcm_data l) (by omega)
  have Zb3 := hpB Zb3 t
  have Zb4 := hpB Zb4 t
  have Zs20 := hpB Zs20 t
  have Zv11 := hpB Zv11 t
  have ee := ee.trans (t.mono ee.size)
  have e1 := e1.trans (t.mono e1.size)
  have e2 := e2.trans (t.mono e2.size)
  have en := en.trans (t.mono en.size)
  clear t
  have em := Below.refl z12.heap.size z12
  try simp only [zP]
  with_reducible
   refine wv (.tuple #[.agg (m.cells).toArray, .int .i64 x4]) ?_
   refine wv (.agg (m.cells).toArray) ?_
   refine wv (.int .i64 x4) ?_
   refine ww (.pointer (some ⟨z12.heap.size, 0, none⟩)) (z12.alloc (.cells #[.int .i64 0, .int .u32 0, .int .i64 0, .int .i64 0, .int .i64 0, .int .i64 0, .int .i64 0, .slice none 0 0, .slice none 0 0, .int .i64 0, .int .i64 0, .int .i64 0, .int .u64 0, .bool false, .slice none 0 0] 47)) ?_
  try simp only [zP]
  have sz_g14 := ee.size
  have sz_g14_e1 := e1.size
  have sz_g14_e2 := e2.size
  have sz_g14_en := en.size
  have sz_g14_em := em.size
  have lZb3 := (Array.getElem?_eq_some_iff.1 Zb3).1
  have lZb4 := (Array.getElem?_eq_some_iff.1 Zb4).1
  have lZs20 := (Array.getElem?_eq_some_iff.1 Zs20).1
  have lZv11 := (Array.getElem?_eq_some_iff.1 Zv11).1
  have sz_ := ee.size
  have Zb3 := hpA Zb3 (.cells #[.int .i64 0, .int .u32 0, .int .i64 0, .int .i64 0, .int .i64 0, .int .i64 0, .int .i64 0, .slice none 0 0, .slice none 0 0, .int .i64 0, .int .i64 0, .int .i64 0, .int .u64 0, .bool false, .slice none 0 0] 47)
  have Zb4 := hpA Zb4 (.cells #[.int .i64 0, .int .u32 0, .int .i64 0, .int .i64 0, .int .i64 0, .int .i64 0, .int .i64 0, .slice none 0 0, .slice none 0 0, .int .i64 0, .int .i64 0, .int .i64 0, .int .u64 0, .bool false, .slice none 0 0] 47)
  have Zs20 := hpA Zs20 (.cells #[.int .i64 0, .int .u32 0, .int .i64 0, .int .i64 0, .int .i64 0, .int .i64 0, .int .i64 0, .slice none 0 0, .slice none 0 0, .int .i64 0, .int .i64 0, .int .i64 0, .int .u64 0, .bool false, .slice none 0 0] 47)
  have Zv11 := hpA Zv11 (.cells #[.int .i64 0, .int .u32 0, .int .i64 0, .int .i64 0, .int .i64 0, .int .i64 0, .int .i64 0, .slice none 0 0, .slice none 0 0, .int .i64 0, .int .i64 0, .int .i64 0, .int .u64 0, .bool false, .slice none 0 0] 47)
  have ee := ee.alloc ee.size (.cells #[.int .i64 0, .int .u32 0, .int .i64 0, .int .i64 0, .int .i64 0, .int .i64 0, .int .i64 0, .slice none 0 0, .slice none 0 0, .int .i64 0, .int .i64 0, .int .i64 0, .int .u64 0, .bool false, .slice none 0 0] 47)
  have e1 := e1.alloc e1.size (.cells #[.int .i64 0, .int .u32 0, .int .i64 0, .int .i64 0, .int .i64 0, .int .i64 0, .int .i64 0, .slice none 0 0, .slice none 0 0, .int .i64 0, .int .i64 0, .int .i64 0, .int .u64 0, .bool false, .slice none 0 0] 47)
  have e2 := e2.alloc e2.size (.cells #[.int .i64 0, .int .u32 0, .int .i64 0, .int .i64 0, .int .i64 0, .int .i64 0, .int .i64 0, .slice none 0 0, .slice none 0 0, .int .i64 0, .int .i64 0, .int .i64 0, .int .u64 0, .bool false, .slice none 0 0] 47)
  have en := en.alloc en.size (.cells #[.int .i64 0, .int .u32 0, .int .i64 0, .int .i64 0, .int .i64 0, .int .i64 0, .int .i64 0, .slice none 0 0, .slice none 0 0, .int .i64 0, .int .i64 0, .int .i64 0, .int .u64 0, .bool false, .slice none 0 0] 47)
  have em := em.alloc em.size (.cells #[.int .i64 0, .int .u32 0, .int .i64 0, .int .i64 0, .int .i64 0, .int .i64 0, .int .i64 0, .slice none 0 0, .slice none 0 0, .int .i64 0, .int .i64 0, .int .i64 0, .int .u64 0, .bool false, .slice none 0 0] 47)
  have Zv13 := hpN z12 (.cells #[.int .i64 0, .int .u32 0, .int .i64 0, .int .i64 0, .int .i64 0, .int .i64 0, .int .i64 0, .slice none 0 0, .slice none 0 0, .int .i64 0, .int .i64 0, .int .i64 0, .int .u64 0, .bool false, .slice none 0 0] 47) rfl
  obtain ⟨z13, hz_⟩ : ∃ z_ : World, z_ = z12.alloc (.cells #[.int .i64 0, .int .u32 0, .int .i64 0, .int .i64 0, .int .i64 0, .int .i64 0, .int .i64 0, .slice none 0 0, .slice none 0 0, .int .i64 0, .int .i64 0, .int .i64 0, .int .u64 0, .bool false, .slice none 0 0] 47) := ⟨_, rfl⟩
  rw [← hz_] at Zb3 Zb4 Zs20 Zv11 Zv13 ee e1 e2 en em ⊢
  clear hz_
  obtain ⟨g14, hg_g14⟩ : ∃ g_, g_ = z12.heap.size := ⟨_, rfl⟩
  have n_g14_Zb3 : g2 < g14 := by rw [hg_g14]; exact lZb3
  have n_g14_Zb4 : g3 < g14 := by rw [hg_g14]; exact lZb4
  have n_g14_Zs20 : g6 < g14 := by rw [hg_g14]; exact lZs20
  have n_g14_Zv11 : g12 < g14 := by rw [hg_g14]; exact lZv11
  have hB_g14 : w.heap.size ≤ g14 := by rw [hg_g14]; exact sz_g14
  have hB_g14_e1 : z6.heap.size ≤ g14 := by rw [hg_g14]; exact sz_g14_e1
  have hB_g14_e2 : z8.heap.size ≤ g14 := by rw [hg_g14]; exact sz_g14_e2
  have hB_g14_en : z9.heap.size ≤ g14 := by rw [hg_g14]; exact sz_g14_en
  have hB_g14_em : z12.heap.size ≤ g14 := by rw [hg_g14]; exact sz_g14_em
  rw [← hg_g14] at Zv13 ⊢
  clear hg_g14 lZb3 lZb4 lZs20 lZv11
  refine wpList_store_row rfl 47 _ _ rfl (g14) (m.cells).toArray rfl rfl 47 _ Zv13 sizeRr (by rfl) (Rc.one _) ?_
  have N_ := setRow_heap z13 (g14) _ (m.cells).toArray _ _ Zv13
  have ee := belowSet (cs := (m.cells).toArray) ee Zv13 (by omega)
  have e1 := belowSet (cs := (m.cells).toArray) e1 Zv13 (by omega)
  have e2 := belowSet (cs := (m.cells).toArray) e2 Zv13 (by omega)
  have en := belowSet (cs := (m.cells).toArray) en Zv13 (by omega)
  have em := belowSet (cs := (m.cells).toArray) em Zv13 (by omega)
  have Zb3 := hpR Zb3 (g' := g14) (by omega) (m.cells).toArray
  have Zb4 := hpR Zb4 (g' := g14) (by omega) (m.cells).toArray
  have Zs20 := hpR Zs20 (g' := g14) (by omega) (m.cells).toArray
  have Zv11 := hpR Zv11 (g' := g14) (by omega) (m.cells).toArray
  clear Zv13
  have Zv13 := N_
  clear N_
  obtain ⟨z14, hz_⟩ : ∃ z_ : World, z_ = z13.setRow (g14) (m.cells).toArray := ⟨_, rfl⟩
  rw [← hz_] at Zb3 Zb4 Zs20 Zv11 Zv13 ee e1 e2 en em ⊢
  clear hz_
  try simp only [zP]
  with_reducible refine wv (.int .i64 x4) ?_
  try simp only [zP]
  refine wpList_nil ?_
  refine hK13 _ _ ?_
  refine wp_seq_k fun K15 hK15 => ?_
  refine wp_seq_k fun K16 hK16 => ?_
  have Zb3 : z14.drew.heap[g2]? = some (.cells (x.cells).toArray 36) := Zb3
  have Zb4 : z14.drew.heap[g3]? = some (.cells (y.cells).toArray 36) := Zb4
  have Zs20 : z14.drew.heap[g6]? = some (.cells (x.cells ++ y.cells).toArray 36) := Zs20
  have Zv11 : z14.drew.heap[g12]? = some (.cells (n.cells).toArray 36) := Zv11
  have Zv13 : z14.drew.heap[g14]? = some (.cells (m.cells).toArray 47) := Zv13
  have ee := belowDrewS ee
  have e1 := belowDrewS e1
  have e2 := belowDrewS e2
  have en := belowDrewS en
  have em := belowDrewS em
  with_reducible refine any_begin (fun z' => z'.heap[g2]? = some (.cells (x.cells).toArray 36 (0, 0)) ∧ z'.heap[g3]? = some (.cells (y.cells).toArray 36 (0, 0)) ∧ z'.heap[g6]? = some (.cells (x.cells ++ y.cells).toArray 36 (0, 0)) ∧ z'.heap[g12]? = some (.cells (n.cells).toArray 36 (0, 0)) ∧ z'.heap[g14]? = some (.cells (m.cells).toArray 47 (0, 0))) 23 #[false, false, false, false, false, false, false, false, false, false, false, false, false, false, false, false, false, false, false, false, false, false, false] ⟨Zb3, Zb4, Zs20, Zv11, Zv13⟩ ?_ ?_
  ·intro c_ a_ d_ v_ w_ h_; cases d_ <;> exact h_
  obtain ⟨z15, hz_⟩ : ∃ z_ : World, z_ = z14.drew := ⟨_, rfl⟩
  rw [← hz_] at Zb3 Zb4 Zs20 Zv11 Zv13 ee e1 e2 en em ⊢
  clear hz_
  with_reducible
   refine hg_ 0 (some 51) (g2) (0) (x.cells) #[true, false, false, false, false, false, false, false, false, false, false, false, false, false, false, false, false, false, false, false, false, false, false] (fun _ h_ => (rowAt h_.1)) Tryz.underlying36 ⟨Zb3, Zb4, Zs20, Zv11, Zv13⟩ ?_
   try simp only [zP]
   refine hg_ 2 (some 53) (g2) (0) (x.cells) #[true, false, true, false, false, false, false, false, false, false, false, false, false, false, false, false, false, false, false, false, false, false, false] (fun _ h_ => (rowAt h_.1)) Tryz.underlying36 ⟨Zb3, Zb4, Zs20, Zv11, Zv13⟩ ?_
   try simp only [zP]
   refine any1 1 ?_
   refine st_f 1 (some 52) 13 #[.agg (x.cells).toArray] #[true, true, true, false, false, false, false, false, false, false, false, false, false, false, false, false, false, false, false, false, false, false, false] (wformed_any x z15 w.heap.size ee.size (okx.below ee (Nat.le_refl _)) (hT.below ee)) ?_
  rintro e z16 ⟨rfl, t⟩
  refine ⟨_, rfl, ?_⟩
  have Zb3 := hpB Zb3 t
  have Zb4 := hpB Zb4 t
  have Zs20 := hpB Zs20 t
  have Zv11 := hpB Zv11 t
  have Zv13 := hpB Zv13 t
  have ee := ee.trans (t.mono ee.size)
  have e1 := e1.trans (t.mono e1.size)
  have e2 := e2.trans (t.mono e2.size)
  have en := en.trans (t.mono en.size)
  have em := em.trans (t.mono em.size)
  clear t
  refine ⟨⟨Zb3, Zb4, Zs20, Zv11, Zv13⟩, ?_⟩
  generalize hb19 : x.formed = b19
  try simp only [zP]
  with_reducible
   refine any1 3 ?_
   refine st_f 3 (some 54) 10 #[.agg (x.cells).toArray] #[true, true, true, true, false, false, false, false, false, false, false, false, false, false, false, false, false, false, false, false, false, false, false] (rplain_any x z16) ?_
  rintro e z17 ⟨rfl, t⟩
  refine ⟨_, rfl, ?_⟩
  have Zb3 := hpB Zb3 t
  have Zb4 := hpB Zb4 t
  have Zs20 := hpB Zs20 t
  have Zv11 := hpB Zv11 t
  have Zv13 := hpB Zv13 t
  have ee := ee.trans (t.mono ee.size)
  have e1 := e1.trans (t.mono e1.size)
  have e2 := e2.trans (t.mono e2.size)
  have en := en.trans (t.mono en.size)
  have em := em.trans (t.mono em.size)
  clear t
  refine ⟨⟨Zb3, Zb4, Zs20, Zv11, Zv13⟩, ?_⟩
  try simp only [zP]
  with_reducible
   refine any1 4 ?_
   refine st_f 4 (some 55) 14 #[.agg (x.cells).toArray] #[true, true, true, true, true, false, false, false, false, false, false, false, false, false, false, false, false, false, false, false, false, false, false] (rwformed_any x z17 w.heap.size ee.size (okx.below ee (Nat.le_refl _))) ?_
  rintro e z18 ⟨rfl, t⟩
  refine ⟨_, rfl, ?_⟩
  have Zb3 := hpB Zb3 t
  have Zb4 := hpB Zb4 t
  have Zs20 := hpB Zs20 t
  have Zv11 := hpB Zv11 t
  have Zv13 := hpB Zv13 t
  have ee := ee.trans (t.mono ee.size)
  have e1 := e1.trans (t.mono e1.size)
  have e2 := e2.trans (t.mono e2.size)
  have en := en.trans (t.mono en.size)
  have em := em.trans (t.mono em.size)
  clear t
  refine ⟨⟨Zb3, Zb4, Zs20, Zv11, Zv13⟩, ?_⟩
  rw [hb19]
  try simp only [zP]
  with_reducible
   refine ha 5 (some 56) (.bool false) #[true, true, true, true, true, true, false, false, false, false, false, false, false, false, false, false, false, false, false, false, false, false, false] (fun w_ _ => runBin (.bool false) (.bool b19) (.bool b19) 4 (run_neqBB b19)) ⟨Zb3, Zb4, Zs20, Zv11, Zv13⟩ ?_
   try simp only [zP]
   refine ha 6 (some 57) (.bool false) #[true, true, true, true, true, true, true, false, false, false, false, false, false, false, false, false, false, false, false, false, false, false, false] (fun w_ _ => by kernel_rfl) ⟨Zb3, Zb4, Zs20, Zv11, Zv13⟩ ?_
   try simp only [zP]
   refine hg_ 7 (some 58) (g2) (0) (x.cells) #[true, true, true, true, true, true, true, true, false, false, false, false, false, false, false, false, false, false, false, false, false, false, false] (fun _ h_ => (rowAt h_.1)) Tryz.underlying36 ⟨Zb3, Zb4, Zs20, Zv11, Zv13⟩ ?_
   try simp only [zP]
   refine hg_ 8 (some 59) (g3) (0) (y.cells) #[true, true, true, true, true, true, true, true, true, false, false, false, false, false, false, false, false, false, false, false, false, false, false] (fun _ h_ => (rowAt h_.2.1)) Tryz.underlying36 ⟨Zb3, Zb4, Zs20, Zv11, Zv13⟩ ?_
   try simp only [zP]
   refine hg_ 10 (some 61) (g2) (0) (x.cells) #[true, true, true, true, true, true, true, true, true, false, true, false, false, false, false, false, false, false, false, false, false, false, false] (fun _ h_ => (rowAt h_.1)) Tryz.underlying36 ⟨Zb3, Zb4, Zs20, Zv11, Zv13⟩ ?_
   try simp only [zP]
   refine hg_ 12 (some 63) (g3) (0) (y.cells) #[true, true, true, true, true, true, true, true, true, false, true, false, true, false, false, false, false, false, false, false, false, false, false] (fun _ h_ => (rowAt h_.2.1)) Tryz.underlying36 ⟨Zb3, Zb4, Zs20, Zv11, Zv13⟩ ?_
   try simp only [zP]
   refine any1 9 ?_
   refine st_f 9 (some 60) 15 #[.agg (x.cells).toArray, .agg (y.cells).toArray] #[true, true, true, true, true, true, true, true, true, true, true, false, true, false, false, false, false, false, false, false, false, false, false] (wsame_any x y z18 w.heap.size ee.size (okx.below ee (Nat.le_refl _)) (oky.below ee (Nat.le_refl _))) ?_
  rintro e z19 ⟨rfl, t⟩
  refine ⟨_, rfl, ?_⟩
  have Zb3 := hpB Zb3 t
  have Zb4 := hpB Zb4 t
  have Zs20 := hpB Zs20 t
  have Zv11 := hpB Zv11 t
  have Zv13 := hpB Zv13 t
  have ee := ee.trans (t.mono ee.size)
  have e1 := e1.trans (t.mono e1.size)
  have e2 := e2.trans (t.mono e2.size)
  have en := en.trans (t.mono en.size)
  have em := em.trans (t.mono em.size)
  clear t
  refine ⟨⟨Zb3, Zb4, Zs20, Zv11, Zv13⟩, ?_⟩
  generalize hb20 : T.Rc.same x y = b20
  try simp only [zP]
  with_reducible
   refine any1 11 ?_
   refine st_f 11 (some 62) 10 #[.agg (x.cells).toArray] #[true, true, true, true, true, true, true, true, true, true, true, true, true, false, false, false, false, false, false, false, false, false, false] (rplain_any x z19) ?_
  rintro e z20 ⟨rfl, t⟩
  refine ⟨_, rfl, ?_⟩
  have Zb3 := hpB Zb3 t
  have Zb4 := hpB Zb4 t
  have Zs20 := hpB Zs20 t
  have Zv11 := hpB Zv11 t
  have Zv13 := hpB Zv13 t
  have ee := ee.trans (t.mono ee.size)
  have e1 := e1.trans (t.mono e1.size)
  have e2 := e2.trans (t.mono e2.size)
  have en := en.trans (t.mono en.size)
  have em := em.trans (t.mono em.size)
  clear t
  refine ⟨⟨Zb3, Zb4, Zs20, Zv11, Zv13⟩, ?_⟩
  try simp only [zP]
  with_reducible
   refine any1 13 ?_
   refine st_f 13 (some 64) 10 #[.agg (y.cells).toArray] #[true, true, true, true, true, true, true, true, true, true, true, true, true, true, false, false, false, false, false, false, false, false, false] (rplain_any y z20) ?_
  rintro e z21 ⟨rfl, t⟩
  refine ⟨_, rfl, ?_⟩
  have Zb3 := hpB Zb3 t
  have Zb4 := hpB Zb4 t
  have Zs20 := hpB Zs20 t
  have Zv11 := hpB Zv11 t
  have Zv13 := hpB Zv13 t
  have ee := ee.trans (t.mono ee.size)
  have e1 := e1.trans (t.mono e1.size)
  have e2 := e2.trans (t.mono e2.size)
  have en := en.trans (t.mono en.size)
  have em := em.trans (t.mono em.size)
  clear t
  refine ⟨⟨Zb3, Zb4, Zs20, Zv11, Zv13⟩, ?_⟩
  try simp only [zP]
  with_reducible
   refine any1 14 ?_
   refine st_f 14 (some 65) 16 #[.agg (x.cells).toArray, .agg (y.cells).toArray] #[true, true, true, true, true, true, true, true, true, true, true, true, true, true, true, false, false, false, false, false, false, false, false] (rrsame_any x y z21 w.heap.size ee.size (okx.below ee (Nat.le_refl _)) (oky.below ee (Nat.le_refl _)) (by have := (hfw1 rfl).1; omega) (by have := (hfw1 rfl).2; omega)) ?_
  rintro e z22 ⟨rfl, t⟩
  refine ⟨_, rfl, ?_⟩
  have Zb3 := hpB Zb3 t
  have Zb4 := hpB Zb4 t
  have Zs20 := hpB Zs20 t
  have Zv11 := hpB Zv11 t
  have Zv13 := hpB Zv13 t
  have ee := ee.trans (t.mono ee.size)
  have e1 := e1.trans (t.mono e1.size)
  have e2 := e2.trans (t.mono e2.size)
  have en := en.trans (t.mono en.size)
  have em := em.trans (t.mono em.size)
  clear t
  refine ⟨⟨Zb3, Zb4, Zs20, Zv11, Zv13⟩, ?_⟩
  rw [hb20]
  try simp only [zP]
  with_reducible
   refine ha 15 (some 66) (.bool false) #[true, true, true, true, true, true, true, true, true, true, true, true, true, true, true, true, false, false, false, false, false, false, false] (fun w_ _ => runBin (.bool false) (.bool b20) (.bool b20) 4 (run_neqBB b20)) ⟨Zb3, Zb4, Zs20, Zv11, Zv13⟩ ?_
   try simp only [zP]
   refine ha 16 (some 67) (.bool false) #[true, true, true, true, true, true, true, true, true, true, true, true, true, true, true, true, true, false, false, false, false, false, false] (fun w_ _ => by kernel_rfl) ⟨Zb3, Zb4, Zs20, Zv11, Zv13⟩ ?_
   try simp only [zP]
   refine ha 17 (some 68) (.bool false) #[true, true, true, true, true, true, true, true, true, true, true, true, true, true, true, true, true, true, false, false, false, false, false] (fun w_ _ => by kernel_rfl) ⟨Zb3, Zb4, Zs20, Zv11, Zv13⟩ ?_
   try simp only [zP]
   refine hg_ 18 (some 69) (g2) (0) (x.cells) #[true, true, true, true, true, true, true, true, true, true, true, true, true, true, true, true, true, true, true, false, false, false, false] (fun _ h_ => (rowAt h_.1)) Tryz.underlying36 ⟨Zb3, Zb4, Zs20, Zv11, Zv13⟩ ?_
   try simp only [zP]
   refine hg_ 19 (some 70) (g2) (0) (x.cells) #[true, true, true, true, true, true, true, true, true, true, true, true, true, true, true, true, true, true, true, true, false, false, false] (fun _ h_ => (rowAt h_.1)) Tryz.underlying36 ⟨Zb3, Zb4, Zs20, Zv11, Zv13⟩ ?_
   try simp only [zP]
   refine any1 20 ?_
   refine st_f 20 (some 71) 15 #[.agg (x.cells).toArray, .agg (x.cells).toArray] #[true, true, true, true, true, true, true, true, true, true, true, true, true, true, true, true, true, true, true, true, true, false, false] (wsame_self x z22 w.heap.size ee.size (okx.below ee (Nat.le_refl _))) ?_
  rintro e z23 ⟨rfl, t⟩
  refine ⟨_, rfl, ?_⟩
  have Zb3 := hpB Zb3 t
  have Zb4 := hpB Zb4 t
  have Zs20 := hpB Zs20 t
  have Zv11 := hpB Zv11 t
  have Zv13 := hpB Zv13 t
  have ee := ee.trans (t.mono ee.size)
  have e1 := e1.trans (t.mono e1.size)
  have e2 := e2.trans (t.mono e2.size)
  have en := en.trans (t.mono en.size)
  have em := em.trans (t.mono em.size)
  clear t
  refine ⟨⟨Zb3, Zb4, Zs20, Zv11, Zv13⟩, ?_⟩
  try simp only [zP]
  with_reducible
   refine ha 21 (some 72) (.bool false) #[true, true, true, true, true, true, true, true, true, true, true, true, true, true, true, true, true, true, true, true, true, true, false] (fun w_ _ => by kernel_rfl) ⟨Zb3, Zb4, Zs20, Zv11, Zv13⟩ ?_
   try simp only [zP]
   refine ha 22 (some 73) (.bool false) #[true, true, true, true, true, true, true, true, true, true, true, true, true, true, true, true, true, true, true, true, true, true, true] (fun w_ _ => by kernel_rfl) ⟨Zb3, Zb4, Zs20, Zv11, Zv13⟩ ?_
   try simp only [zP]
   refine any_end ?_
  refine hK16 _ _ ?_
  refine wp_cond_false (by kernel_rfl) ?_
  refine wp_skip ?_
  refine hK15 _ _ ?_
  refine wp_seq_k fun K21 hK21 => ?_
  have Zb3 : z23.drew.heap[g2]? = some (.cells (x.cells).toArray 36) := Zb3
  have Zb4 : z23.drew.heap[g3]? = some (.cells (y.cells).toArray 36) := Zb4
  have Zs20 : z23.drew.heap[g6]? = some (.cells (x.cells ++ y.cells).toArray 36) := Zs20
  have Zv11 : z23.drew.heap[g12]? = some (.cells (n.cells).toArray 36) := Zv11
  have Zv13 : z23.drew.heap[g14]? = some (.cells (m.cells).toArray 47) := Zv13
  have ee := belowDrewS ee
  have e1 := belowDrewS e1
  have e2 := belowDrewS e2
  have en := belowDrewS en
  have em := belowDrewS em
  with_reducible refine any_begin (fun z' => z'.heap[g2]? = some (.cells (x.cells).toArray 36 (0, 0)) ∧ z'.heap[g3]? = some (.cells (y.cells).toArray 36 (0, 0)) ∧ z'.heap[g6]? = some (.cells (x.cells ++ y.cells).toArray 36 (0, 0)) ∧ z'.heap[g12]? = some (.cells (n.cells).toArray 36 (0, 0)) ∧ z'.heap[g14]? = some (.cells (m.cells).toArray 47 (0, 0))) 20 #[false, false, false, false, false, false, false, false, false, false, false, false, false, false, false, false, false, false, false, false] ⟨Zb3, Zb4, Zs20, Zv11, Zv13⟩ ?_ ?_
  ·intro c_ a_ d_ v_ w_ h_; cases d_ <;> exact h_
  obtain ⟨z24, hz_⟩ : ∃ z_ : World, z_ = z23.drew := ⟨_, rfl⟩
  rw [← hz_] at Zb3 Zb4 Zs20 Zv11 Zv13 ee e1 e2 en em ⊢
  clear hz_
  with_reducible
   refine ha 0 (some 74) (.int .i64 x1) #[true, false, false, false, false, false, false, false, false, false, false, false, false, false, false, false, false, false, false, false] (fun w_ _ => by kernel_rfl) ⟨Zb3, Zb4, Zs20, Zv11, Zv13⟩ ?_
   try simp only [zP]
   refine ha 1 (some 75) (.int .i64 x2) #[true, true, false, false, false, false, false, false, false, false, false, false, false, false, false, false, false, false, false, false] (fun w_ _ => by kernel_rfl) ⟨Zb3, Zb4, Zs20, Zv11, Zv13⟩ ?_
   try simp only [zP]
   refine ha 2 (some 76) (.bool true) #[true, true, true, false, false, false, false, false, false, false, false, false, false, false, false, false, false, false, false, false] (fun w_ _ => runBin (.bool true) (.int .i64 x1) (.int .i64 x2) 40 (run_eqlI ((decide_eq_true hx12) : (decide (x1 = x2)) = true))) ⟨Zb3, Zb4, Zs20, Zv11, Zv13⟩ ?_
   try simp only [zP]
   refine ha 3 (some 77) (.bool true) #[true, true, true, true, false, false, false, false, false, false, false, false, false, false, false, false, false, false, false, false] (fun w_ _ => by kernel_rfl) ⟨Zb3, Zb4, Zs20, Zv11, Zv13⟩ ?_
   try simp only [zP]
   refine ha 4 (some 78) (v1) #[true, true, true, true, true, false, false, false, false, false, false, false, false, false, false, false, false, false, false, false] (fun w_ _ => by kernel_rfl) ⟨Zb3, Zb4, Zs20, Zv11, Zv13⟩ ?_
   try simp only [zP]
   refine ha 5 (some 79) (v2) #[true, true, true, true, true, true, false, false, false, false, false, false, false, false, false, false, false, false, false, false] (fun w_ _ => by kernel_rfl) ⟨Zb3, Zb4, Zs20, Zv11, Zv13⟩ ?_
   try simp only [zP]
   refine any1 6 ?_
   refine st_f 6 (some 80) 17 #[v1, v2] #[true, true, true, true, true, true, true, false, false, false, false, false, false, false, false, false, false, false, false, false] (samed_e ((s1.belowM e1 (Nat.le_refl _)).more e1.size) ((s2.belowM e2 (Nat.le_refl _)).more e2.size) hlb hl12) ?_
  rintro e z25 ⟨rfl, t⟩
  refine ⟨_, rfl, ?_⟩
  have Zb3 := hpB Zb3 t
  have Zb4 := hpB Zb4 t
  have Zs20 := hpB Zs20 t
  have Zv11 := hpB Zv11 t
  have Zv13 := hpB Zv13 t
  have ee := ee.trans (t.mono ee.size)
  have e1 := e1.trans (t.mono e1.size)
  have e2 := e2.trans (t.mono e2.size)
  have en := en.trans (t.mono en.size)
  have em := em.trans (t.mono em.size)
  clear t
  refine ⟨⟨Zb3, Zb4, Zs20, Zv11, Zv13⟩, ?_⟩
  try simp only [zP]
  with_reducible
   refine ha 7 (some 81) (.bool true) #[true, true, true, true, true, true, true, true, false, false, false, false, false, false, false, false, false, false, false, false] (fun w_ _ => by kernel_rfl) ⟨Zb3, Zb4, Zs20, Zv11, Zv13⟩ ?_
   try simp only [zP]
   refine ha 8 (some 82) (.bool true) #[true, true, true, true, true, true, true, true, true, false, false, false, false, false, false, false, false, false, false, false] (fun w_ _ => by kernel_rfl) ⟨Zb3, Zb4, Zs20, Zv11, Zv13⟩ ?_
   try simp only [zP]
   refine ha 9 (some 83) (.int .i64 x3) #[true, true, true, true, true, true, true, true, true, true, false, false, false, false, false, false, false, false, false, false] (fun w_ _ => by kernel_rfl) ⟨Zb3, Zb4, Zs20, Zv11, Zv13⟩ ?_
   try simp only [zP]
   refine ha 10 (some 84) (.int .i64 x4) #[true, true, true, true, true, true, true, true, true, true, true, false, false, false, false, false, false, false, false, false] (fun w_ _ => by kernel_rfl) ⟨Zb3, Zb4, Zs20, Zv11, Zv13⟩ ?_
   try simp only [zP]
   refine ha 11 (some 85) (.bool true) #[true, true, true, true, true, true, true, true, true, true, true, true, false, false, false, false, false, false, false, false] (fun w_ _ => runBin (.bool true) (.int .i64 x3) (.int .i64 x4) 40 (run_eqlI ((decide_eq_true hx34) : (decide (x3 = x4)) = true))) ⟨Zb3, Zb4, Zs20, Zv11, Zv13⟩ ?_
   try simp only [zP]
   refine ha 12 (some 86) (.bool true) #[true, true, true, true, true, true, true, true, true, true, true, true, true, false, false, false, false, false, false, false] (fun w_ _ => by kernel_rfl) ⟨Zb3, Zb4, Zs20, Zv11, Zv13⟩ ?_
   try simp only [zP]
   refine ha 13 (some 87) (.bool true) #[true, true, true, true, true, true, true, true, true, true, true, true, true, true, false, false, false, false, false, false] (fun w_ _ => by kernel_rfl) ⟨Zb3, Zb4, Zs20, Zv11, Zv13⟩ ?_
   try simp only [zP]
   refine hg_ 14 (some 88) (g12) (0) (n.cells) #[true, true, true, true, true, true, true, true, true, true, true, true, true, true, true, false, false, false, false, false] (fun _ h_ => (rowAt h_.2.2.2.1)) Tryz.underlying36 ⟨Zb3, Zb4, Zs20, Zv11, Zv13⟩ ?_
   try simp only [zP]
   refine hg_ 16 (some 90) (g14) (0) (m.cells) #[true, true, true, true, true, true, true, true, true, true, true, true, true, true, true, false, true, false, false, false] (fun _ h_ => (rowAt h_.2.2.2.2)) Tryz.underlying47 ⟨Zb3, Zb4, Zs20, Zv11, Zv13⟩ ?_
   try simp only [zP]
   refine any1 15 ?_
   refine st_f 15 (some 89) 10 #[.agg (n.cells).toArray] #[true, true, true, true, true, true, true, true, true, true, true, true, true, true, true, true, true, false, false, false] (rplain_any n z25) ?_
  rintro e z26 ⟨rfl, t⟩
  refine ⟨_, rfl, ?_⟩
  have Zb3 := hpB Zb3 t
  have Zb4 := hpB Zb4 t
  have Zs20 := hpB Zs20 t
  have Zv11 := hpB Zv11 t
  have Zv13 := hpB Zv13 t
  have ee := ee.trans (t.mono ee.size)
  have e1 := e1.trans (t.mono e1.size)
  have e2 := e2.trans (t.mono e2.size)
  have en := en.trans (t.mono en.size)
  have em := em.trans (t.mono em.size)
  clear t
  refine ⟨⟨Zb3, Zb4, Zs20, Zv11, Zv13⟩, ?_⟩
  try simp only [zP]
  with_reducible
   refine any1 17 ?_
   refine st_f 17 (some 91) 16 #[.agg (n.cells).toArray, .agg (m.cells).toArray] #[true, true, true, true, true, true, true, true, true, true, true, true, true, true, true, true, true, true, false, false] (rrsame_t n m z26 z26.heap.size (Nat.le_refl _) ((okn.below en (Nat.le_refl _)).more en.size) ((okm.below em (Nat.le_refl _)).more em.size) (by rw [← hlnm.dt]; exact hndt) hlnm) ?_
  rintro e z27 ⟨rfl, t⟩
  refine ⟨_, rfl, ?_⟩
  have Zb3 := hpB Zb3 t
  have Zb4 := hpB Zb4 t
  have Zs20 := hpB Zs20 t
  have Zv11 := hpB Zv11 t
  have Zv13 := hpB Zv13 t
  have ee := ee.trans (t.mono ee.size)
  have e1 := e1.trans (t.mono e1.size)
  have e2 := e2.trans (t.mono e2.size)
  have en := en.trans (t.mono en.size)
  have em := em.trans (t.mono em.size)
  clear t
  refine ⟨⟨Zb3, Zb4, Zs20, Zv11, Zv13⟩, ?_⟩
  try simp only [zP]
  with_reducible
   refine ha 18 (some 92) (.bool true) #[true, true, true, true, true, true, true, true, true, true, true, true, true, true, true, true, true, true, true, false] (fun w_ _ => by kernel_rfl) ⟨Zb3, Zb4, Zs20, Zv11, Zv13⟩ ?_
   try simp only [zP]
   refine ha 19 (some 6) (.bool true) #[true, true, true, true, true, true, true, true, true, true, true, true, true, true, true, true, true, true, true, true] (fun w_ _ => by kernel_rfl) ⟨Zb3, Zb4, Zs20, Zv11, Zv13⟩ ?_
   try simp only [zP]
   refine any_end ?_
  refine hK21 _ _ ?_
  refine wp_ret ?_
  exact bodyPost_ret (v := .bool true) (by kernel_rfl) rfl ⟨rfl, ee⟩
 have pb8 : (l.length : Int) > 70000 := of_decide_eq_true hb8
 refine wp_cond_true (by kernel_rfl) ?_
 refine wp_seq_k fun K22 hK22 => ?_
 refine wp_region_lit ?_
 with_reducible refine wc 6 #[] (awake13_any z5 (hT.below ee)) ?_
 rintro e z6 ⟨rfl, t⟩
 refine ⟨_, rfl, ?_⟩
 have Zb3 := hpB Zb3 t
 have Zb4 := hpB Zb4 t
 have Zs20 := hpB Zs20 t
 have ee := ee.trans (t.mono ee.size)
 clear t
 try simp only [zP]
 with_reducible refine wv (.bool true) ?_
 try simp only [zP]
 refine wpList_nil ?_
 refine hK22 _ _ ?_
 refine wp_ret ?_
 refine then_ret ?_
 exact bodyPost_ret (v := .bool true) (by kernel_rfl) rfl ⟨rfl, ee⟩
theorem walForms_walk (W : World) (hT : Tabs W) (v0 v1 v2 : Value) (h0 : Arg W 36 v0) (h1 : Arg W 36 v1) (h2 : Arg W 34 v2) :
 Calls Tryz.prog 3 #[v0, v1, v2] W fun e W' => e = .returned (.bool true) ∧ Below W.heap.size W W' := by
 obtain ⟨x, rfl, okx⟩ := h0.rc
 obtain ⟨y, rfl, oky⟩ := h1.rc
 obtain ⟨A, c, l, rfl, hc, hm, hA, hr⟩ := h2.bytes Tryz.underlying34
 exact wforms_any x y A c l W okx oky ⟨A, c, rfl, hc, hm, hA, hr⟩ hc hT
end Go.Proofs.YtjofjpmhokjhnaaGreatDoor
