import Derived.Test.YtjofjpmhokjhnaaGreatDoorWfM17
import Derived.Test.YtjofjpmhokjhnaaGreatDoorWfM20
import Derived.Test.YtjofjpmhokjhnaaGreatDoorWfM11
import Derived.Test.YtjofjpmhokjhnaaGreatDoorWfM13
set_option linter.unusedSimpArgs false
set_option linter.unusedVariables false
namespace Go.Proofs.YtjofjpmhokjhnaaGreatDoor
set_option maxRecDepth 20000
open Go.RowKit T
namespace T
def Rc.wr (x : Rc) : List UInt8 := if x.kd = 1 then B.put (C.put [] (T.nz x.kd) 1) x.br x.bn else if x.kd = 2 then cput (C.put (B.put (C.put [] (T.nz x.kd) 1) x.br x.bn) (T.nz x.sl) 4) x.c else if x.kd = 3 then cput (C.put (C.put [] (T.nz x.kd) 1) (T.nz x.sl) 4) x.c else C.put (C.put (C.put [] (T.nz x.kd) 1) (T.nz x.sl) 4) x.dt.length 4 ++ x.dt
end T
theorem rc_kd {x : Rc} (h : x.formed = true) : x.kd = 1 ∨ x.kd = 2 ∨ x.kd = 3 ∨ x.kd = 4 := by
 unfold T.Rc.formed at h
 simp only [Bool.and_eq_true, decide_eq_true_eq] at h
 have h0 := h.1.1.1.1.1.1
 unfold T.Rc.only at h0
 by_cases h1 : x.kd = 1
 ·exact Or.inl h1
 by_cases h2 : x.kd = 2
 ·exact Or.inr (Or.inl h2)
 by_cases h3 : x.kd = 3
 ·exact Or.inr (Or.inr (Or.inl h3))
 by_cases h4 : x.kd = 4
 ·exact Or.inr (Or.inr (Or.inr h4))
 rw [if_neg h1, if_neg h2, if_neg h3, if_neg h4] at h0
 exact absurd h0 (by decide)
theorem rcData {w : World} {B : Nat} {x : Rc} (ok : RcOk w B x) : SlB w B (.slice x.D x.dt.length x.dc) x.dt := ⟨x.D, x.dc, rfl, ok.dl, ok.dm, ok.dn, ok.d⟩
set_option maxHeartbeats 25600000 in
theorem wwrite_any (x : Rc) (w : World) (B0 : Nat) (hB : B0 ≤ w.heap.size) (ok : RcOk w B0 x) (hdt : x.dt.length ≤ 100000000) (hT : Tabs w) :
 Calls Tryz.prog 8 #[.agg x.cells.toArray] w fun e w' => Wrote x.formed x.wr e w' ∧ Below w.heap.size w w' := by
 have ee : Below w.heap.size w w := Below.refl _ _
 go_enter Tryz.func8, Tryz.ntmps8
 refine wp_seq_k fun K1 hK1 => ?_
 refine wp_region_lit ?_
 with_reducible refine ww (.pointer (some ⟨w.heap.size, 0, none⟩)) (w.alloc (.cells (x.cells).toArray 36)) ?_
 try simp only [zP]
 have sz_g2 := ee.size
 have sz_ := ee.size
 have ee := ee.alloc ee.size (.cells (x.cells).toArray 36)
 have Zb1 := hpN w (.cells (x.cells).toArray 36) rfl
 obtain ⟨z1, hz_⟩ : ∃ z_ : World, z_ = w.alloc (.cells (x.cells).toArray 36) := ⟨_, rfl⟩
 rw [← hz_] at Zb1 ee ⊢
 clear hz_
 obtain ⟨g2, hg_g2⟩ : ∃ g_, g_ = w.heap.size := ⟨_, rfl⟩
 have hB_g2 : w.heap.size ≤ g2 := by rw [hg_g2]; exact sz_g2
 rw [← hg_g2] at Zb1 ⊢
 clear hg_g2
 with_reducible
  refine wv (.slice none 0 0) ?_
  refine wv (.int .i64 0) ?_
 try simp only [zP]
 refine wpList_nil ?_
 refine hK1 _ _ ?_
 refine wp_seq_k fun K3 hK3 => ?_
 refine wp_seq_k fun K4 hK4 => ?_
 refine wp_region_lit ?_
 with_reducible
  refine wg (g2) (0) (x.cells) (rowAt Zb1) Tryz.underlying36 ?_
  try simp only [zP]
  refine wc 13 #[.agg (x.cells).toArray] (wformed_any x z1 B0 (Nat.le_trans hB ee.size) (ok.below ee hB) (hT.below ee)) ?_
 rintro e z2 ⟨rfl, t⟩
 refine ⟨_, rfl, ?_⟩
 have Zb1 := hpB Zb1 t
 have ee := ee.trans (t.mono ee.size)
 clear t
 generalize hb5 : x.formed = b5
 try simp only [zP]
 cases b5
 ·with_reducible refine wv (.bool true) ?_
  try simp only [zP]
  refine wpList_nil ?_
  refine hK4 _ _ ?_
  refine wp_cond_true (by kernel_rfl) ?_
  refine wp_seq_k fun K6 hK6 => ?_
  refine wp_region_lit ?_
  with_reducible
   refine wv (.slice none 0 0) ?_
   refine wv (.int .i64 2) ?_
  try simp only [zP]
  refine wpList_nil ?_
  refine hK6 _ _ ?_
  refine wp_ret ?_
  refine then_ret ?_
  exact bodyPost_ret (v := .tuple #[.slice none 0 0, .int .i64 2]) (by kernel_rfl) rfl ⟨⟨_, [], 2, rfl, SlB.nil, by rw [hb5]; rfl, by rw [hb5]; rfl⟩, ee⟩
 with_reducible refine wv (.bool false) ?_
 try simp only [zP]
 refine wpList_nil ?_
 refine hK4 _ _ ?_
 refine wp_cond_false (by kernel_rfl) ?_
 refine wp_skip ?_
 refine hK3 _ _ ?_
 refine wp_seq_k fun K7 hK7 => ?_
 refine wp_region_lit ?_
 with_reducible
  refine wv (.pointer (some ⟨g2, 0, none⟩)) ?_
  refine wl (.int .i64 x.kd) ⟨g2, 0, none⟩ (rowCell Zb1 (0) rfl) Tryz.underlying3 ?_
  try simp only [zP]
  refine wq (.int .u64 ((T.nz x.kd : Int))) (okIntP ((wrapU x.kd) : IntKind.u64.wrap x.kd = (T.nz x.kd : Int)) (by kernel_rfl)) ?_
  try simp only [zP]
  refine wc 32 #[.slice none 0 0, .int .u64 ((T.nz x.kd : Int)), .int .i64 1] (put_s (SlB.nil : SlB z2 z2.heap.size _ _) (by simp) (Nat.le_refl _) (T.nz x.kd) (nz_lt _) 1) ?_
 rintro e z3 ⟨v0, rfl, hs, t, hf_hs⟩
 refine ⟨_, rfl, ?_⟩
 have hf_hs := hf_hs.mono ee.size
 have Zb1 := hpB Zb1 t
 have ee := ee.trans (t.mono ee.size)
 clear t
 try simp only [zP]
 with_reducible refine wv (v0) ?_
 try simp only [zP]
 refine wpList_nil ?_
 refine hK7 _ _ ?_
 refine wp_seq_k fun K8 hK8 => ?_
 refine wp_seq_k fun K9 hK9 => ?_
 refine wp_region_lit ?_
 with_reducible
  refine wv (.pointer (some ⟨g2, 0, none⟩)) ?_
  refine wl (.int .i64 x.kd) ⟨g2, 0, none⟩ (rowCell Zb1 (0) rfl) Tryz.underlying3 ?_
 try simp only [zP]
 obtain ⟨b10, hb10⟩ : ∃ d_ : Bool, (decide (x.kd = 1)) = d_ := ⟨_, rfl⟩
 with_reducible
  refine wb (.bool b10) (.int .i64 x.kd) (.int .i64 1) 3 (run_eqlI hb10) ?_
  refine wv (.bool b10) ?_
 try simp only [zP]
 cases b10
 ·have pb10 : ¬ (x.kd = 1) := of_decide_eq_false hb10
  with_reducible
   refine wv (.pointer (some ⟨g2, 0, none⟩)) ?_
   refine wl (.int .i64 x.kd) ⟨g2, 0, none⟩ (rowCell Zb1 (0) rfl) Tryz.underlying3 ?_
  try simp only [zP]
  obtain ⟨b11, hb11⟩ : ∃ d_ : Bool, (decide (x.kd = 2)) = d_ := ⟨_, rfl⟩
  with_reducible
   refine wb (.bool b11) (.int .i64 x.kd) (.int .i64 2) 3 (run_eqlI hb11) ?_
   refine wv (.bool b11) ?_
  try simp only [zP]
  refine wpList_nil ?_
  refine hK9 _ _ ?_
  cases b11
  ·have pb11 : ¬ (x.kd = 2) := of_decide_eq_false hb11
   refine wp_cond_false (by kernel_rfl) ?_
   refine wp_skip ?_
   refine hK8 _ _ ?_
   refine wp_seq_k fun K12 hK12 => ?_
   refine wp_seq_k fun K13 hK13 => ?_
   refine wp_region_lit ?_
   with_reducible
    refine wv (.pointer (some ⟨g2, 0, none⟩)) ?_
    refine wl (.int .i64 x.kd) ⟨g2, 0, none⟩ (rowCell Zb1 (0) rfl) Tryz.underlying3 ?_
    refine wb (.bool true) (.int .i64 x.kd) (.int .i64 1) 3 (run_neqI hb10) ?_
   try simp only [zP]
   refine wpList_nil ?_
   refine hK13 _ _ ?_
   refine wp_cond_true (by kernel_rfl) ?_
   refine wp_region_lit ?_
   with_reducible
    refine wv (v0) ?_
    refine wv (.pointer (some ⟨g2, 3, none⟩)) ?_
    refine wl (.int .i64 x.sl) ⟨g2, 3, none⟩ (rowCell Zb1 (3) rfl) Tryz.underlying3 ?_
    try simp only [zP]
    refine wq (.int .u64 ((T.nz x.sl : Int))) (okIntP ((wrapU x.sl) : IntKind.u64.wrap x.sl = (T.nz x.sl : Int)) (by kernel_rfl)) ?_
    try simp only [zP]
    refine wc 32 #[v0, .int .u64 ((T.nz x.sl : Int)), .int .i64 4] (put_s hs (by have h0_ := put_len2 [] (T.nz x.kd) 1; simp only [List.length_nil] at *; omega) (Nat.le_refl _) (T.nz x.sl) (nz_lt _) 4) ?_
   rintro e z4 ⟨r1, rfl, hr1, t, hf_hr1⟩
   refine ⟨_, rfl, ?_⟩
   have hf_hr1 := hf_hr1.mono ee.size
   have hs := (hs.belowM t (Nat.le_refl _)).more t.size
   have Zb1 := hpB Zb1 t
   have ee := ee.trans (t.mono ee.size)
   clear t
   try simp only [zP]
   with_reducible refine wv (r1) ?_
   try simp only [zP]
   refine wpList_nil ?_
   refine hK12 _ _ ?_
   refine wp_seq_k fun K14 hK14 => ?_
   refine wp_seq_k fun K15 hK15 => ?_
   refine wp_region_lit ?_
   with_reducible
    refine wv (.pointer (some ⟨g2, 0, none⟩)) ?_
    refine wl (.int .i64 x.kd) ⟨g2, 0, none⟩ (rowCell Zb1 (0) rfl) Tryz.underlying3 ?_
   try simp only [zP]
   refine wpList_nil ?_
   refine hK15 _ _ ?_
   refine wp_block ?_
   refine wp_seq_k fun K16 hK16 => ?_
   refine wp_seq_k fun K17 hK17 => ?_
   refine wp_region_lit ?_
   with_reducible
    refine wb (.bool false) (.int .i64 x.kd) (.int .i64 2) 3 (run_eqlI hb11) ?_
    refine wv (.bool false) ?_
   try simp only [zP]
   refine wpList_nil ?_
   refine hK17 _ _ ?_
   refine wp_cond_false (by kernel_rfl) ?_
   refine wp_region_lit ?_
   obtain ⟨b18, hb18⟩ : ∃ d_ : Bool, (decide (x.kd = 3)) = d_ := ⟨_, rfl⟩
   with_reducible
    refine wb (.bool b18) (.int .i64 x.kd) (.int .i64 3) 3 (run_eqlI hb18) ?_
    refine wv (.bool b18) ?_
   try simp only [zP]
   refine wpList_nil ?_
   refine hK16 _ _ ?_
   cases b18
   ·have pb18 : ¬ (x.kd = 3) := of_decide_eq_false hb18
    refine wp_cond_false (by kernel_rfl) ?_
    refine wp_seq_k fun K19 hK19 => ?_
    refine wp_region_lit ?_
    obtain ⟨b20, hb20⟩ : ∃ d_ : Bool, (decide (x.kd = 4)) = d_ := ⟨_, rfl⟩
    with_reducible
     refine wb (.bool b20) (.int .i64 x.kd) (.int .i64 4) 3 (run_eqlI hb20) ?_
     refine wv (.bool b20) ?_
    try simp only [zP]
    refine wpList_nil ?_
    refine hK19 _ _ ?_
    cases b20
    ·have pb20 : ¬ (x.kd = 4) := of_decide_eq_false hb20
     refine wp_cond_false (by kernel_rfl) ?_
     refine wp_skip ?_
     refine inBlock_normal ?_
     refine hK14 _ _ ?_
     refine wp_seq_k fun K21 hK21 => ?_
     refine wp_region_lit ?_
     iterate 2 (with_reducible refine wv (r1) ?_)
     with_reducible refine wv (.int .i64 0) ?_
     try simp only [zP]
     refine wpList_nil ?_
     refine hK21 _ _ ?_
     refine wp_ret ?_
     exfalso
     have hk_ := rc_kd hb5
     omega
    have pb20 : x.kd = 4 := of_decide_eq_true hb20
    have eb20 : x.kd = 4 := of_decide_eq_true hb20
    refine wp_cond_true (by kernel_rfl) ?_
    have hs : SlB z4.drew z4.drew.heap.size _ _ := SlB.drew hs
    have hr1 : SlB z4.drew z4.drew.heap.size _ _ := SlB.drew hr1
    have Zb1 : z4.drew.heap[g2]? = some (.cells (x.cells).toArray 36) := Zb1
    have ee := belowDrewS ee
    with_reducible refine any_begin (fun z' => z'.heap[g2]? = some (.cells (x.cells).toArray 36 (0, 0))) 10 #[false, false, false, false, false, false, false, false, false, false] Zb1 ?_ ?_
    ·intro c_ a_ d_ v_ w_ h_; cases d_ <;> exact h_
    obtain ⟨z5, hz_⟩ : ∃ z_ : World, z_ = z4.drew := ⟨_, rfl⟩
    rw [← hz_] at Zb1 ee hs hr1 ⊢
    clear hz_
    with_reducible
     refine ha 0 (some 43) (r1) #[true, false, false, false, false, false, false, false, false, false] (fun w_ _ => by kernel_rfl) Zb1 ?_
     try simp only [zP]
     refine ha 1 (some 44) (.pointer (some ⟨g2, 14, none⟩)) #[true, true, false, false, false, false, false, false, false, false] (fun w_ _ => by kernel_rfl) Zb1 ?_
     try simp only [zP]
     refine hl_ 2 (some 45) (.slice x.D x.dt.length x.dc) ⟨g2, 14, none⟩ #[true, true, true, false, false, false, false, false, false, false] (fun _ h_ => (rowCell h_ (14) rfl)) Tryz.underlying34 Zb1 ?_
     try simp only [zP]
     refine ha 3 (some 46) (.int .i64 ((x.dt.length : Int))) #[true, true, true, true, false, false, false, false, false, false] (fun w_ _ => by kernel_rfl) Zb1 ?_
     try simp only [zP]
     refine ha 4 (some 47) (.int .u64 ((x.dt.length : Int))) #[true, true, true, true, true, false, false, false, false, false] (fun w_ _ => (okIntA ((wrapOf (by omega)) : IntKind.u64.wrap ((x.dt.length : Int)) = (x.dt.length : Int)) (by kernel_rfl))) Zb1 ?_
     try simp only [zP]
     refine ha 6 (some 49) (.pointer (some ⟨g2, 14, none⟩)) #[true, true, true, true, true, false, true, false, false, false] (fun w_ _ => by kernel_rfl) Zb1 ?_
     try simp only [zP]
     refine hl_ 7 (some 50) (.slice x.D x.dt.length x.dc) ⟨g2, 14, none⟩ #[true, true, true, true, true, false, true, true, false, false] (fun _ h_ => (rowCell h_ (14) rfl)) Tryz.underlying34 Zb1 ?_
     try simp only [zP]
     refine any1 5 ?_
    have lt_Zb1 := (Array.getElem?_eq_some_iff.1 Zb1).1
    have sz_w := ee.size
    with_reducible refine st_f 5 (some 48) 32 #[r1, .int .u64 ((x.dt.length : Int)), .int .i64 4] #[true, true, true, true, true, true, true, true, false, false] (put_o hr1 (by have h0_ := put_len2 [] (T.nz x.kd) 1; have h1_ := put_len2 (C.put [] (T.nz x.kd) 1) (T.nz x.sl) 4; simp only [List.length_nil] at *; omega) (Nat.le_refl _) x.dt.length (by omega) 4) ?_
    rintro e z6 ⟨r3, rfl, O3, t⟩
    refine ⟨_, rfl, ?_⟩
    have tO3 := t
    have hs := (hs.belowM t (Nat.le_refl _)).more t.size
    have hr1 := (hr1.belowM t (Nat.le_refl _)).more t.size
    have Zb1 := hpB Zb1 t
    have ee := ee.trans (t.mono ee.size)
    clear t
    refine ⟨Zb1, ?_⟩
    try simp only [zP]
    with_reducible refine any1 8 ?_
    refine st_a8 8 (some 51) (.tmp 48) (.tmp 50) #[true, true, true, true, true, true, true, true, true, false] O3 (rcData (ok.below ee hB)) (by have h0_ := put_len2 [] (T.nz x.kd) 1; have h1_ := put_len2 (C.put [] (T.nz x.kd) 1) (T.nz x.sl) 4; have hq_ := put_len2 (C.put (C.put [] (T.nz x.kd) 1) (T.nz x.sl) 4) x.dt.length 4; simp only [List.length_nil] at *; omega) (by omega) tO3.size ?_
    intro v_ z7 O_ g_
    have hz := SlB.ofOwn O_
    have Zb1 := heapGrown O3 g_ lt_Zb1 Zb1
    have ee := ee.grown g_ ee.size (fun i_ h_ => Nat.le_trans sz_w (O3.lt i_ h_).1)
    clear O_ g_ O3
    refine ⟨Zb1, ?_⟩
    try simp only [zP]
    with_reducible
     refine ha 9 (some 4) (v_) #[true, true, true, true, true, true, true, true, true, true] (fun w_ _ => by kernel_rfl) Zb1 ?_
     try simp only [zP]
     refine any_end ?_
    refine inBlock_normal ?_
    refine hK14 _ _ ?_
    refine wp_seq_k fun K22 hK22 => ?_
    refine wp_region_lit ?_
    iterate 2 (with_reducible refine wv (v_) ?_)
    with_reducible refine wv (.int .i64 0) ?_
    try simp only [zP]
    refine wpList_nil ?_
    refine hK22 _ _ ?_
    refine wp_ret ?_
    exact bodyPost_ret (v := .tuple #[v_, .int .i64 0]) (by kernel_rfl) rfl ⟨⟨_, x.wr, 0, rfl, (by rw [show x.wr = C.put (C.put (C.put [] (T.nz x.kd) 1) (T.nz x.sl) 4) x.dt.length 4 ++ x.dt from by unfold T.Rc.wr; simp [pb10, pb11, pb18, pb20]]; exact hz), by rw [hb5]; rfl, by rw [hb5]; rfl⟩, ee⟩
   have pb18 : x.kd = 3 := of_decide_eq_true hb18
   have eb18 : x.kd = 3 := of_decide_eq_true hb18
   refine wp_cond_true (by kernel_rfl) ?_
   refine wp_region_lit ?_
   with_reducible
    refine wv (r1) ?_
    refine wv (.pointer (some ⟨g2, 4, none⟩)) ?_
    refine wg (g2) (4) (x.c.cells) (rowMid Zb1 (4) (partOf 4 (by kernel_rfl))) Tryz.underlying33 ?_
    try simp only [zP]
    refine wc 34 #[r1, .agg (x.c.cells).toArray] (cput_s hr1 (by have h0_ := put_len2 [] (T.nz x.kd) 1; have h1_ := put_len2 (C.put [] (T.nz x.kd) 1) (T.nz x.sl) 4; simp only [List.length_nil] at *; omega) (Nat.le_refl _) x.c ((ok.below ee hB).c.more (Nat.le_trans hB ee.size)) (hT.below ee)) ?_
   rintro e z5 ⟨r4, rfl, hr4, t, hf_hr4⟩
   refine ⟨_, rfl, ?_⟩
   have hf_hr4 := hf_hr4.mono ee.size
   have hs := (hs.belowM t (Nat.le_refl _)).more t.size
   have hr1 := (hr1.belowM t (Nat.le_refl _)).more t.size
   have Zb1 := hpB Zb1 t
   have ee := ee.trans (t.mono ee.size)
   clear t
   try simp only [zP]
   with_reducible refine wv (r4) ?_
   try simp only [zP]
   refine wpList_nil ?_
   refine inBlock_normal ?_
   refine hK14 _ _ ?_
   refine wp_seq_k fun K23 hK23 => ?_
   refine wp_region_lit ?_
   iterate 2 (with_reducible refine wv (r4) ?_)
   with_reducible refine wv (.int .i64 0) ?_
   try simp only [zP]
   refine wpList_nil ?_
   refine hK23 _ _ ?_
   refine wp_ret ?_
   exact bodyPost_ret (v := .tuple #[r4, .int .i64 0]) (by kernel_rfl) rfl ⟨⟨_, x.wr, 0, rfl, (by rw [show x.wr = cput (C.put (C.put [] (T.nz x.kd) 1) (T.nz x.sl) 4) x.c from by unfold T.Rc.wr; simp [pb10, pb11, pb18]]; exact hr4), by rw [hb5]; rfl, by rw [hb5]; rfl⟩, ee⟩
  have pb11 : x.kd = 2 := of_decide_eq_true hb11
  have eb11 : x.kd = 2 := of_decide_eq_true hb11
  refine wp_cond_true (by kernel_rfl) ?_
  refine wp_region_lit ?_
  with_reducible
   refine wv (v0) ?_
   refine wv (.pointer (some ⟨g2, 1, none⟩)) ?_
   refine wg (g2) (1) ([.int .u32 (x.br : Int), .int .i64 x.bn]) (rowMid Zb1 (1) (partOf 1 (by kernel_rfl))) Tryz.underlying24 ?_
   try simp only [zP]
   refine wc 33 #[v0, .agg ([.int .u32 (x.br : Int), .int .i64 x.bn]).toArray] (bput_s hs (by have h0_ := put_len2 [] (T.nz x.kd) 1; simp only [List.length_nil] at *; omega) x.br x.bn ok.br) ?_
  rintro e z4 ⟨r5, rfl, hr5, t, hf_hr5⟩
  refine ⟨_, rfl, ?_⟩
  have hf_hr5 := hf_hr5.mono ee.size
  have hs := (hs.belowM t (Nat.le_refl _)).more t.size
  have Zb1 := hpB Zb1 t
  have ee := ee.trans (t.mono ee.size)
  clear t
  try simp only [zP]
  with_reducible refine wv (r5) ?_
  try simp only [zP]
  refine wpList_nil ?_
  refine hK8 _ _ ?_
  refine wp_seq_k fun K24 hK24 => ?_
  refine wp_seq_k fun K25 hK25 => ?_
  refine wp_region_lit ?_
  with_reducible
   refine wv (.pointer (some ⟨g2, 0, none⟩)) ?_
   refine wl (.int .i64 x.kd) ⟨g2, 0, none⟩ (rowCell Zb1 (0) rfl) Tryz.underlying3 ?_
   refine wb (.bool true) (.int .i64 x.kd) (.int .i64 1) 3 (run_neqI hb10) ?_
  try simp only [zP]
  refine wpList_nil ?_
  refine hK25 _ _ ?_
  refine wp_cond_true (by kernel_rfl) ?_
  refine wp_region_lit ?_
  with_reducible
   refine wv (r5) ?_
   refine wv (.pointer (some ⟨g2, 3, none⟩)) ?_
   refine wl (.int .i64 x.sl) ⟨g2, 3, none⟩ (rowCell Zb1 (3) rfl) Tryz.underlying3 ?_
   try simp only [zP]
   refine wq (.int .u64 ((T.nz x.sl : Int))) (okIntP ((wrapU x.sl) : IntKind.u64.wrap x.sl = (T.nz x.sl : Int)) (by kernel_rfl)) ?_
   try simp only [zP]
   refine wc 32 #[r5, .int .u64 ((T.nz x.sl : Int)), .int .i64 4] (put_s hr5 (by have h0_ := put_len2 [] (T.nz x.kd) 1; have h1_ := B.put_len (C.put [] (T.nz x.kd) 1) x.br x.bn; simp only [List.length_nil] at *; omega) (Nat.le_refl _) (T.nz x.sl) (nz_lt _) 4) ?_
  rintro e z5 ⟨r6, rfl, hr6, t, hf_hr6⟩
  refine ⟨_, rfl, ?_⟩
  have hf_hr6 := hf_hr6.mono ee.size
  have hs := (hs.belowM t (Nat.le_refl _)).more t.size
  have hr5 := (hr5.belowM t (Nat.le_refl _)).more t.size
  have Zb1 := hpB Zb1 t
  have ee := ee.trans (t.mono ee.size)
  clear t
  try simp only [zP]
  with_reducible refine wv (r6) ?_
  try simp only [zP]
  refine wpList_nil ?_
  refine hK24 _ _ ?_
  refine wp_seq_k fun K26 hK26 => ?_
  refine wp_seq_k fun K27 hK27 => ?_
  refine wp_region_lit ?_
  with_reducible
   refine wv (.pointer (some ⟨g2, 0, none⟩)) ?_
   refine wl (.int .i64 x.kd) ⟨g2, 0, none⟩ (rowCell Zb1 (0) rfl) Tryz.underlying3 ?_
  try simp only [zP]
  refine wpList_nil ?_
  refine hK27 _ _ ?_
  refine wp_block ?_
  refine wp_seq_k fun K28 hK28 => ?_
  refine wp_seq_k fun K29 hK29 => ?_
  refine wp_region_lit ?_
  with_reducible
   refine wb (.bool true) (.int .i64 x.kd) (.int .i64 2) 3 (run_eqlI hb11) ?_
   refine wv (.bool true) ?_
  try simp only [zP]
  refine wpList_nil ?_
  refine hK29 _ _ ?_
  refine wp_cond_true (by kernel_rfl) ?_
  refine wp_skip ?_
  refine hK28 _ _ ?_
  refine wp_cond_true (by kernel_rfl) ?_
  refine wp_region_lit ?_
  with_reducible
   refine wv (r6) ?_
   refine wv (.pointer (some ⟨g2, 4, none⟩)) ?_
   refine wg (g2) (4) (x.c.cells) (rowMid Zb1 (4) (partOf 4 (by kernel_rfl))) Tryz.underlying33 ?_
   try simp only [zP]
   refine wc 34 #[r6, .agg (x.c.cells).toArray] (cput_s hr6 (by have h0_ := put_len2 [] (T.nz x.kd) 1; have h1_ := B.put_len (C.put [] (T.nz x.kd) 1) x.br x.bn; have h2_ := put_len2 (B.put (C.put [] (T.nz x.kd) 1) x.br x.bn) (T.nz x.sl) 4; simp only [List.length_nil] at *; omega) (Nat.le_refl _) x.c ((ok.below ee hB).c.more (Nat.le_trans hB ee.size)) (hT.below ee)) ?_
  rintro e z6 ⟨r7, rfl, hr7, t, hf_hr7⟩
  refine ⟨_, rfl, ?_⟩
  have hf_hr7 := hf_hr7.mono ee.size
  have hs := (hs.belowM t (Nat.le_refl _)).more t.size
  have hr5 := (hr5.belowM t (Nat.le_refl _)).more t.size
  have hr6 := (hr6.belowM t (Nat.le_refl _)).more t.size
  have Zb1 := hpB Zb1 t
  have ee := ee.trans (t.mono ee.size)
  clear t
  try simp only [zP]
  with_reducible refine wv (r7) ?_
  try simp only [zP]
  refine wpList_nil ?_
  refine inBlock_normal ?_
  refine hK26 _ _ ?_
  refine wp_seq_k fun K30 hK30 => ?_
  refine wp_region_lit ?_
  iterate 2 (with_reducible refine wv (r7) ?_)
  with_reducible refine wv (.int .i64 0) ?_
  try simp only [zP]
  refine wpList_nil ?_
  refine hK30 _ _ ?_
  refine wp_ret ?_
  exact bodyPost_ret (v := .tuple #[r7, .int .i64 0]) (by kernel_rfl) rfl ⟨⟨_, x.wr, 0, rfl, (by rw [show x.wr = cput (C.put (B.put (C.put [] (T.nz x.kd) 1) x.br x.bn) (T.nz x.sl) 4) x.c from by unfold T.Rc.wr; simp [pb10, pb11]]; exact hr7), by rw [hb5]; rfl, by rw [hb5]; rfl⟩, ee⟩
 have pb10 : x.kd = 1 := of_decide_eq_true hb10
 have eb10 : x.kd = 1 := of_decide_eq_true hb10
 iterate 3 (with_reducible refine wk ?_)
 with_reducible refine wv (.bool true) ?_
 try simp only [zP]
 refine wpList_nil ?_
 refine hK9 _ _ ?_
 refine wp_cond_true (by kernel_rfl) ?_
 refine wp_region_lit ?_
 with_reducible
  refine wv (v0) ?_
  refine wv (.pointer (some ⟨g2, 1, none⟩)) ?_
  refine wg (g2) (1) ([.int .u32 (x.br : Int), .int .i64 x.bn]) (rowMid Zb1 (1) (partOf 1 (by kernel_rfl))) Tryz.underlying24 ?_
  try simp only [zP]
  refine wc 33 #[v0, .agg ([.int .u32 (x.br : Int), .int .i64 x.bn]).toArray] (bput_s hs (by have h0_ := put_len2 [] (T.nz x.kd) 1; simp only [List.length_nil] at *; omega) x.br x.bn ok.br) ?_
 rintro e z4 ⟨r8, rfl, hr8, t, hf_hr8⟩
 refine ⟨_, rfl, ?_⟩
 have hf_hr8 := hf_hr8.mono ee.size
 have hs := (hs.belowM t (Nat.le_refl _)).more t.size
 have Zb1 := hpB Zb1 t
 have ee := ee.trans (t.mono ee.size)
 clear t
 try simp only [zP]
 with_reducible refine wv (r8) ?_
 try simp only [zP]
 refine wpList_nil ?_
 refine hK8 _ _ ?_
 refine wp_seq_k fun K31 hK31 => ?_
 refine wp_seq_k fun K32 hK32 => ?_
 refine wp_region_lit ?_
 with_reducible
  refine wv (.pointer (some ⟨g2, 0, none⟩)) ?_
  refine wl (.int .i64 x.kd) ⟨g2, 0, none⟩ (rowCell Zb1 (0) rfl) Tryz.underlying3 ?_
  refine wb (.bool false) (.int .i64 x.kd) (.int .i64 1) 3 (run_neqI hb10) ?_
 try simp only [zP]
 refine wpList_nil ?_
 refine hK32 _ _ ?_
 refine wp_cond_false (by kernel_rfl) ?_
 refine wp_skip ?_
 refine hK31 _ _ ?_
 refine wp_seq_k fun K33 hK33 => ?_
 refine wp_seq_k fun K34 hK34 => ?_
 refine wp_region_lit ?_
 with_reducible
  refine wv (.pointer (some ⟨g2, 0, none⟩)) ?_
  refine wl (.int .i64 x.kd) ⟨g2, 0, none⟩ (rowCell Zb1 (0) rfl) Tryz.underlying3 ?_
 try simp only [zP]
 refine wpList_nil ?_
 refine hK34 _ _ ?_
 refine wp_block ?_
 refine wp_seq_k fun K35 hK35 => ?_
 refine wp_seq_k fun K36 hK36 => ?_
 refine wp_region_lit ?_
 with_reducible
  refine wb (.bool false) (.int .i64 x.kd) (.int .i64 2) 3 (run_eqlI (show (decide (x.kd = 2)) = false from by rw [eb10]; decide)) ?_
  refine wv (.bool false) ?_
 try simp only [zP]
 refine wpList_nil ?_
 refine hK36 _ _ ?_
 refine wp_cond_false (by kernel_rfl) ?_
 refine wp_region_lit ?_
 with_reducible
  refine wb (.bool false) (.int .i64 x.kd) (.int .i64 3) 3 (run_eqlI (show (decide (x.kd = 3)) = false from by rw [eb10]; decide)) ?_
  refine wv (.bool false) ?_
 try simp only [zP]
 refine wpList_nil ?_
 refine hK35 _ _ ?_
 refine wp_cond_false (by kernel_rfl) ?_
 refine wp_seq_k fun K37 hK37 => ?_
 refine wp_region_lit ?_
 with_reducible
  refine wb (.bool false) (.int .i64 x.kd) (.int .i64 4) 3 (run_eqlI (show (decide (x.kd = 4)) = false from by rw [eb10]; decide)) ?_
  refine wv (.bool false) ?_
 try simp only [zP]
 refine wpList_nil ?_
 refine hK37 _ _ ?_
 refine wp_cond_false (by kernel_rfl) ?_
 refine wp_skip ?_
 refine inBlock_normal ?_
 refine hK33 _ _ ?_
 refine wp_seq_k fun K38 hK38 => ?_
 refine wp_region_lit ?_
 iterate 2 (with_reducible refine wv (r8) ?_)
 with_reducible refine wv (.int .i64 0) ?_
 try simp only [zP]
 refine wpList_nil ?_
 refine hK38 _ _ ?_
 refine wp_ret ?_
 exact bodyPost_ret (v := .tuple #[r8, .int .i64 0]) (by kernel_rfl) rfl ⟨⟨_, x.wr, 0, rfl, (by rw [show x.wr = B.put (C.put [] (T.nz x.kd) 1) x.br x.bn from by unfold T.Rc.wr; simp [pb10]]; exact hr8), by rw [hb5]; rfl, by rw [hb5]; rfl⟩, ee⟩
end Go.Proofs.YtjofjpmhokjhnaaGreatDoor
namespace Go.Proofs.YtjofjpmhokjhnaaGreatDoor
set_option maxRecDepth 20001
open Go.RowKit T
set_option maxHeartbeats 3200000 in
theorem takeid_any (B g : Nat) (w : World) (s : C.St) (h : RdrAt w B g s) :
 Calls Tryz.prog 70 #[.pointer (some ⟨g, 0, none⟩)] w fun e w' => e = .returned (.agg [.int .i64 ((idtake s).1.1 : Int), .int .i64 ((idtake s).1.2 : Int)].toArray) ∧ RdrAt w' B g (idtake s).2 ∧ w.grownBy w' (some g) := by
 have hx := take_bound 1 s (by omega)
 have hy := take_bound 4 (C.take 1 s).2 (by omega)
 have HU : Hid (idtake s = bif (C.take 4 (C.take 1 s).2).2.2 || !idb ((C.take 1 s).1 : Int) ((C.take 4 (C.take 1 s).2).1 : Int) then ((0, 0), ((C.take 4 (C.take 1 s).2).2.1, true))
  else (((C.take 1 s).1, (C.take 4 (C.take 1 s).2).1), (C.take 4 (C.take 1 s).2).2)) := rfl
 obtain ⟨R, hR⟩ : ∃ R, R = idtake s := ⟨_, rfl⟩
 rw [← hR] at HU ⊢
 clear hR
 have T1 := Lib.hid (fun z (hz : RdrAt z B g s) => take_any B g 1 s z hz)
 have e1 : C.take 1 s = ((C.take 1 s).1, (C.take 1 s).2) := rfl
 generalize C.take 1 s = r1 at hx hy HU T1
 obtain ⟨x, s1⟩ := r1
 simp only at hx hy HU T1
 have T2 := Lib.hid (fun z (hz : RdrAt z B g s1) => take_any B g 4 s1 z hz)
 generalize C.take 4 s1 = r2 at hy HU T2
 obtain ⟨y, ls, f⟩ := r2
 simp only at hy HU T2
 clear e1
 have kx : IntKind.i64.wrap (x : Int) = (x : Int) := wrapI (by omega)
 have ky : IntKind.i64.wrap (y : Int) = (y : Int) := wrapI (by omega)
 have hx := show x < 256 from hx
 have HI := Lib.hid (fun z => tid_any (x : Int) (y : Int) z)
 generalize idb (x : Int) (y : Int) = b at HI HU
 have hg : g < w.heap.size := h.lt.1
 have hBg : B ≤ g := h.lt.2
 have ee : w.grownBy w (some g) := ⟨rfl, rfl, rfl, Nat.le_refl _, fun _ _ _ => rfl⟩
 have rr := h
 clear h
 have ee := grownAllocR ee (.cells #[.int .i64 0, .int .i64 0] 26)
 have rr := RdrAt.alloc rr (.cells #[.int .i64 0, .int .i64 0] 26)
 have Zr := hpN w (.cells #[.int .i64 0, .int .i64 0] 26) rfl
 go_enter Tryz.func70, Tryz.ntmps70
 go_upto_region 1 with fail
 generalize w.alloc (.cells #[.int .i64 0, .int .i64 0] 26) = w0 at Zr ee rr ⊢
 refine wp_region_lit ?_
 go_wp2_with fail
 refine (T1.out w0 rr).mono ?_
 rintro e z1 ⟨rfl, rr, t⟩
 have Zr := heapG Zr t (by omega)
 have ee := grownTrans ee t
 clear t
 go_wp2_with fail
 refine (T2.out z1 rr).mono ?_
 rintro e z2 ⟨rfl, rr, t⟩
 have Zr := heapG Zr t (by omega)
 have ee := grownTrans ee t
 clear t
 clear T1 T2
 dsimp only
 rename_i hK
 refine hK _ _ ?_
 clear hK
 iterate 3 go_step
 iterate 6 go_step
 have lZr := (Array.getElem?_eq_some_iff.1 Zr).1
 have sz2 := ee.size
 have Zr := hpA Zr (.cells #[.int .i64 0, .int .i64 0] 26)
 have ee := grownAllocR ee (.cells #[.int .i64 0, .int .i64 0] 26)
 have rr := RdrAt.alloc rr (.cells #[.int .i64 0, .int .i64 0] 26)
 have Zt := hpN z2 (.cells #[.int .i64 0, .int .i64 0] 26) rfl
 generalize z2.alloc (.cells #[.int .i64 0, .int .i64 0] 26) = z3 at Zr Zt ee rr ⊢
 iterate 27 (first | with_reducible refine isStore (ty := 26) rfl ?_ | go_step)
 refine wpList_store_row rfl 26 _ _ rfl (z2.heap.size) ([.int .i64 (x : Int), .int .i64 (y : Int)]).toArray rfl rfl 26 _ Zt sizeId (by rfl) (by simp [Value.oneCell']) ?_
 have N_ := setRow_heap z3 (z2.heap.size) _ ([.int .i64 (x : Int), .int .i64 (y : Int)]).toArray _ _ Zt
 have ee := grownRowNew (cs := ([.int .i64 (x : Int), .int .i64 (y : Int)]).toArray) ee (show w.heap.size ≤ z2.heap.size by omega) Zt
 have rr := RdrAt.row (cs := ([.int .i64 (x : Int), .int .i64 (y : Int)]).toArray) rr (show z2.heap.size ≠ g by omega) (by omega)
 have Zr := hpR Zr (g' := z2.heap.size) (by omega) ([.int .i64 (x : Int), .int .i64 (y : Int)]).toArray
 clear Zt
 have Zt := N_
 clear N_
 generalize z3.setRow (z2.heap.size) ([.int .i64 (x : Int), .int .i64 (y : Int)]).toArray = z4 at Zr Zt ee rr ⊢
 clear kx ky
 go_wp2_with fail
 refine (ok_any B g (ls, f) z4 rr).mono ?_
 rintro e z5 ⟨rfl, hw_⟩
 rw [← hw_]
 clear hw_ z5
 dsimp only
 rename_i hK
 refine hK _ _ ?_
 clear hK
 cases f with
 | true =>
   have HR : Hid (R = ((0, 0), (ls, true))) := HU.out
   clear HU
   have HR2 : Hid (R = ((0, 0), (ls, true))) := HR.out
   clear HR HI
   go_wp2_with fail
   refine (take_any B g 9 (ls, true) z4 rr).mono ?_
   rintro e z6 ⟨rfl, rr, t⟩
   have Zr := heapG Zr t (by omega)
   have Zt := heapG Zt t (by omega)
   have ee := grownTrans ee t
   clear t
   rw [take9] at rr
   go_upto_region 4 with fail
   refine wp_region_lit ?_
   iterate 27 (first | with_reducible refine isStore (ty := 26) rfl ?_ | go_step)
   refine wpList_store_row rfl 26 _ _ rfl (w.heap.size) ([.int .i64 0, .int .i64 0]).toArray rfl rfl 26 _ Zr sizeId (by rfl) (by simp [Value.oneCell']) ?_
   have N_ := setRow_heap z6 (w.heap.size) _ ([.int .i64 0, .int .i64 0]).toArray _ _ Zr
   have ee := grownRowNew (cs := ([.int .i64 0, .int .i64 0]).toArray) ee (show w.heap.size ≤ w.heap.size by omega) Zr
   have rr := RdrAt.row (cs := ([.int .i64 0, .int .i64 0]).toArray) rr (show w.heap.size ≠ g by omega) (by omega)
   have Zt := hpR Zt (g' := w.heap.size) (by omega) ([.int .i64 0, .int .i64 0]).toArray
   clear Zr
   have Zr := N_
   clear N_
   generalize z6.setRow (w.heap.size) ([.int .i64 0, .int .i64 0]).toArray = z7 at Zr Zt ee rr ⊢
   go_wp2_with fail
   refine bodyPost_ret (v := .agg [.int .i64 0, .int .i64 0].toArray) (results_cell_row rfl _ _ (w.heap.size) 26 _ (0, 0) _ rfl Zr Tryz.underlying26 rfl sizeId) rfl ⟨by rw [HR2.out]; rfl, by rw [HR2.out]; exact rr, ee⟩
 | false =>
   iterate 27 (first | with_reducible refine isLoad (ty := 26) rfl ?_ | go_step)
   refine wpList_load_g (by rfl) 26 _ rfl (z2.heap.size) 0 rfl (([.int .i64 (x : Int), .int .i64 (y : Int)])) _ (rowAt Zt) Tryz.underlying26 rfl sizeId ?_
   go_wp2_with fail
   refine (HI.out z4).mono ?_
   rintro e z6 ⟨rfl, t⟩
   have Zr := hpB Zr t
   have Zt := hpB Zt t
   have ee := grownBelow ee t
   have rr := RdrAt.below rr t
   clear t
   cases b with
   | false =>
     have HR : Hid (R = ((0, 0), (ls, true))) := HU.out
     clear HU
     have HR2 : Hid (R = ((0, 0), (ls, true))) := HR.out
     clear HR HI
     go_wp2_with fail
     refine (take_any B g 9 (ls, false) z6 rr).mono ?_
     rintro e z7 ⟨rfl, rr, t⟩
     have Zr := heapG Zr t (by omega)
     have Zt := heapG Zt t (by omega)
     have ee := grownTrans ee t
     clear t
     rw [take9] at rr
     go_upto_region 4 with fail
     refine wp_region_lit ?_
     iterate 27 (first | with_reducible refine isStore (ty := 26) rfl ?_ | go_step)
     refine wpList_store_row rfl 26 _ _ rfl (w.heap.size) ([.int .i64 0, .int .i64 0]).toArray rfl rfl 26 _ Zr sizeId (by rfl) (by simp [Value.oneCell']) ?_
     have N_ := setRow_heap z7 (w.heap.size) _ ([.int .i64 0, .int .i64 0]).toArray _ _ Zr
     have ee := grownRowNew (cs := ([.int .i64 0, .int .i64 0]).toArray) ee (show w.heap.size ≤ w.heap.size by omega) Zr
     have rr := RdrAt.row (cs := ([.int .i64 0, .int .i64 0]).toArray) rr (show w.heap.size ≠ g by omega) (by omega)
     have Zt := hpR Zt (g' := w.heap.size) (by omega) ([.int .i64 0, .int .i64 0]).toArray
     clear Zr
     have Zr := N_
     clear N_
     generalize z7.setRow (w.heap.size) ([.int .i64 0, .int .i64 0]).toArray = z8 at Zr Zt ee rr ⊢
     go_wp2_with fail
     refine bodyPost_ret (v := .agg [.int .i64 0, .int .i64 0].toArray) (results_cell_row rfl _ _ (w.heap.size) 26 _ (0, 0) _ rfl Zr Tryz.underlying26 rfl sizeId) rfl ⟨by rw [HR2.out]; rfl, by rw [HR2.out]; exact rr, ee⟩
   | true =>
     have HR : Hid (R = ((x, y), (ls, false))) := HU.out
     clear HU HI
     go_upto_region 5 with fail
     refine wp_region_lit ?_
     iterate 27 (first | with_reducible refine isLoad (ty := 26) rfl ?_ | go_step)
     refine wpList_load_mid rfl 26 _ rfl (z2.heap.size) 0 rfl (([.int .i64 (x : Int), .int .i64 (y : Int)])) _ (rowAt Zt) Tryz.underlying26 rfl sizeId ?_
     iterate 27 (first | with_reducible refine isStore (ty := 26) rfl ?_ | go_step)
     refine wpList_store_row rfl 26 _ _ rfl (w.heap.size) ([.int .i64 (x : Int), .int .i64 (y : Int)]).toArray rfl rfl 26 _ Zr sizeId (by rfl) (by simp [Value.oneCell']) ?_
     have N_ := setRow_heap z6 (w.heap.size) _ ([.int .i64 (x : Int), .int .i64 (y : Int)]).toArray _ _ Zr
     have ee := grownRowNew (cs := ([.int .i64 (x : Int), .int .i64 (y : Int)]).toArray) ee (show w.heap.size ≤ w.heap.size by omega) Zr
     have rr := RdrAt.row (cs := ([.int .i64 (x : Int), .int .i64 (y : Int)]).toArray) rr (show w.heap.size ≠ g by omega) (by omega)
     have Zt := hpR Zt (g' := w.heap.size) (by omega) ([.int .i64 (x : Int), .int .i64 (y : Int)]).toArray
     clear Zr
     have Zr := N_
     clear N_
     generalize z6.setRow (w.heap.size) ([.int .i64 (x : Int), .int .i64 (y : Int)]).toArray = z7 at Zr Zt ee rr ⊢
     go_wp2_with fail
     refine bodyPost_ret (v := .agg [.int .i64 (x : Int), .int .i64 (y : Int)].toArray) (results_cell_row rfl _ _ (w.heap.size) 26 _ (0, 0) _ rfl Zr Tryz.underlying26 rfl sizeId) rfl ⟨by rw [HR.out], by rw [HR.out]; exact rr, ee⟩
end Go.Proofs.YtjofjpmhokjhnaaGreatDoor
