/- The laws MessageBack, MessageLabels. Conditions: what lies, lies below. (Printed by gen_msg.py.) -/
import Derived.Test.YtjofjpmhokjhnaaDoorMbM33
import Derived.Test.YtjofjpmhokjhnaaDoorMbM34
namespace Go.Proofs.YtjofjpmhokjhnaaDoor
set_option maxRecDepth 20000
open Go.RowKit T
set_option linter.unusedSimpArgs false
set_option linter.unusedVariables false

theorem small_dt {m : Ms} (h : m.small) : m.dt.length ≤ 1099511627776 := by unfold T.Ms.small at h; omega
/-- the reference's Same -/
def T.Ms.rsame (a b : Ms) : Bool := (bif ((((((((!decide (a.kd = b.kd)) || (!decide (a.br = b.br ∧ a.bn = b.bn))) || (!decide (a.sl = b.sl))) || (!(a.ha == b.ha))) || (!decide (a.vr = b.vr ∧ a.vn = b.vn))) || (!decide (a.ii = b.ii ∧ a.ij = b.ij))) || (!decide (a.g = b.g))) || (!decide ((a.st : Int) = (b.st : Int)))) then false else (bif ((((((!(a.ye == b.ye)) || (!decide (a.nu = b.nu))) || (!(a.ky.data.toList == b.ky.data.toList))) || (!decide ((a.ve : Int) = (b.ve : Int)))) || (!decide (a.vk = b.vk ∧ a.vb = b.vb ∧ a.vt.data.toList = b.vt.data.toList))) || (!decide (a.er = b.er))) then false else ((SameC a.c b.c && SameT a.t b.t) && decide (a.dt = b.dt))))
set_option maxHeartbeats 25600000 in
theorem rmsame0 (a b : Ms) (w : World) (B0 : Nat) (hB : B0 ≤ w.heap.size) (oka : MsOk w B0 a) (okb : MsOk w B0 b) (sa : a.small) (sb : b.small) :
  Calls Tryd.prog 19 #[.agg a.cells.toArray, .agg b.cells.toArray] w fun e w' => e = .returned (.bool (T.Ms.rsame a b)) ∧ Below w.heap.size w w' := by
 have ee : Below w.heap.size w w := Below.refl _ _
 go_enter Tryd.func19, Tryd.ntmps19
 refine wp_seq_k fun K1 hK1 => ?_
 refine wp_region_lit ?_
 with_reducible refine ww (.pointer (some ⟨w.heap.size, 0, none⟩)) (w.alloc (.cells (a.cells).toArray 47)) ?_
 try simp only [nP, nN, nA, n0, nS]
 have sz_g2 := ee.size
 have sz_ := ee.size
 have ee := ee.alloc ee.size (.cells (a.cells).toArray 47)
 have Zb2 := hpN w (.cells (a.cells).toArray 47) rfl
 generalize w.alloc (.cells (a.cells).toArray 47) = z1 at Zb2 ee ⊢
 obtain ⟨g2, hg_g2⟩ : ∃ g_, g_ = w.heap.size := ⟨_, rfl⟩
 have hB_g2 : w.heap.size ≤ g2 := by rw [hg_g2]; exact sz_g2
 rw [← hg_g2] at Zb2 ⊢
 clear hg_g2
 with_reducible refine ww (.pointer (some ⟨z1.heap.size, 0, none⟩)) (z1.alloc (.cells (b.cells).toArray 47)) ?_
 try simp only [nP, nN, nA, n0, nS]
 have sz_g3 := ee.size
 have lZb2 := (Array.getElem?_eq_some_iff.1 Zb2).1
 have sz_ := ee.size
 have Zb2 := hpA Zb2 (.cells (b.cells).toArray 47)
 have ee := ee.alloc ee.size (.cells (b.cells).toArray 47)
 have Zb3 := hpN z1 (.cells (b.cells).toArray 47) rfl
 generalize z1.alloc (.cells (b.cells).toArray 47) = z2 at Zb2 Zb3 ee ⊢
 obtain ⟨g3, hg_g3⟩ : ∃ g_, g_ = z1.heap.size := ⟨_, rfl⟩
 have n_g3_Zb2 : g2 < g3 := by rw [hg_g3]; exact lZb2
 have hB_g3 : w.heap.size ≤ g3 := by rw [hg_g3]; exact sz_g3
 rw [← hg_g3] at Zb3 ⊢
 clear hg_g3 lZb2
 with_reducible refine wv (.bool false) ?_
 try simp only [nP, nN, nA, n0, nS]
 refine wpList_nil ?_
 refine hK1 _ _ ?_
 refine wp_seq_k fun K4 hK4 => ?_
 refine wp_seq_k fun K5 hK5 => ?_
 have hjK5 : ∀ (u5 u6 u7 u8 u9 u10 u11 u12 u13 u14 u15 u16 u17 u18 u19 u20 u21 u22 u23 u24 u25 u26 u27 u28 u29 u30 u31 u32 u33 u34 u35 u36 u37 u38 u39 u40 u41 u42 u43 u44 u45 u46 u47 u48 u49 u50 u51 u52 u53 u54 u55 u56 u57 : Value) (b7 : Bool) (zc5 : World), zc5.heap[g2]? = some (.cells (a.cells).toArray 47 (0, 0)) → zc5.heap[g3]? = some (.cells (b.cells).toArray 47 (0, 0)) → Below w.heap.size w zc5 → ((((((((!decide (a.kd = b.kd)) || (!decide (a.br = b.br ∧ a.bn = b.bn))) || (!decide (a.sl = b.sl))) || (!(a.ha == b.ha))) || (!decide (a.vr = b.vr ∧ a.vn = b.vn))) || (!decide (a.ii = b.ii ∧ a.ij = b.ij))) || (!decide (a.g = b.g))) || (!decide ((a.st : Int) = (b.st : Int)))) = b7 → K5 ⟨#[.agg (a.cells).toArray, .agg (b.cells).toArray, .pointer (some ⟨g2, 0, none⟩), .pointer (some ⟨g3, 0, none⟩), .bool false, u5, u6, u7, u8, u9, u10, u11, u12, u13, u14, u15, u16, u17, u18, u19, u20, u21, u22, u23, u24, u25, u26, u27, u28, u29, u30, u31, u32, u33, u34, u35, u36, u37, u38, u39, u40, u41, u42, u43, u44, u45, u46, u47, u48, u49, u50, u51, u52, u53, u54, u55, u56, u57, .bool b7, undef, undef, undef, undef, undef, undef, undef, undef, undef, undef, undef, undef, undef, undef, undef, undef, undef, undef, undef, undef, undef, undef, undef, undef, undef, undef, undef, undef, undef, undef, undef, undef, undef, undef, undef, undef, undef, undef, undef, undef, undef, undef, undef, undef, undef, undef, undef, undef, undef, undef, undef, undef, undef, undef, undef, undef, undef, undef, undef], []⟩ zc5 := by
  clear Zb2 Zb3 ee
  intro u5 u6 u7 u8 u9 u10 u11 u12 u13 u14 u15 u16 u17 u18 u19 u20 u21 u22 u23 u24 u25 u26 u27 u28 u29 u30 u31 u32 u33 u34 u35 u36 u37 u38 u39 u40 u41 u42 u43 u44 u45 u46 u47 u48 u49 u50 u51 u52 u53 u54 u55 u56 u57 b7 zc5 Zb2 Zb3 ee hb7
  refine hK5 _ _ ?_
  cases b7
  ·refine wp_cond_false (by kernel_rfl) ?_
   refine wp_skip ?_
   refine hK4 _ _ ?_
   refine wp_seq_k fun K8 hK8 => ?_
   refine wp_seq_k fun K9 hK9 => ?_
   have hjK9 : ∀ (u59 u60 u61 u62 u63 u64 u65 u66 u67 u68 u69 u70 u71 u72 u73 u74 u75 u76 u77 u78 u79 u80 u81 u82 u83 u84 u85 u86 u87 u88 u89 u90 u91 u92 u93 u94 u95 u96 u97 : Value) (b11 : Bool) (zc9 : World), zc9.heap[g2]? = some (.cells (a.cells).toArray 47 (0, 0)) → zc9.heap[g3]? = some (.cells (b.cells).toArray 47 (0, 0)) → Below w.heap.size w zc9 → ((((((!(a.ye == b.ye)) || (!decide (a.nu = b.nu))) || (!(a.ky.data.toList == b.ky.data.toList))) || (!decide ((a.ve : Int) = (b.ve : Int)))) || (!decide (a.vk = b.vk ∧ a.vb = b.vb ∧ a.vt.data.toList = b.vt.data.toList))) || (!decide (a.er = b.er))) = b11 → K9 ⟨#[.agg (a.cells).toArray, .agg (b.cells).toArray, .pointer (some ⟨g2, 0, none⟩), .pointer (some ⟨g3, 0, none⟩), .bool false, u5, u6, u7, u8, u9, u10, u11, u12, u13, u14, u15, u16, u17, u18, u19, u20, u21, u22, u23, u24, u25, u26, u27, u28, u29, u30, u31, u32, u33, u34, u35, u36, u37, u38, u39, u40, u41, u42, u43, u44, u45, u46, u47, u48, u49, u50, u51, u52, u53, u54, u55, u56, u57, .bool false, u59, u60, u61, u62, u63, u64, u65, u66, u67, u68, u69, u70, u71, u72, u73, u74, u75, u76, u77, u78, u79, u80, u81, u82, u83, u84, u85, u86, u87, u88, u89, u90, u91, u92, u93, u94, u95, u96, u97, .bool b11, undef, undef, undef, undef, undef, undef, undef, undef, undef, undef, undef, undef, undef, undef, undef, undef, undef, undef, undef], []⟩ zc9 := by
    clear Zb2 Zb3 ee
    intro u59 u60 u61 u62 u63 u64 u65 u66 u67 u68 u69 u70 u71 u72 u73 u74 u75 u76 u77 u78 u79 u80 u81 u82 u83 u84 u85 u86 u87 u88 u89 u90 u91 u92 u93 u94 u95 u96 u97 b11 zc9 Zb2 Zb3 ee hb11
    refine hK9 _ _ ?_
    cases b11
    ·refine wp_cond_false (by kernel_rfl) ?_
     refine wp_skip ?_
     refine hK8 _ _ ?_
     refine wp_seq_k fun K12 hK12 => ?_
     have hjK12 : ∀ (u99 u100 u101 u102 u103 u104 u105 u106 u107 u108 u109 u110 u111 u112 u113 u114 u115 u116 u117 : Value) (b14 : Bool) (zc12 : World), zc12.heap[g2]? = some (.cells (a.cells).toArray 47 (0, 0)) → zc12.heap[g3]? = some (.cells (b.cells).toArray 47 (0, 0)) → Below w.heap.size w zc12 → ((SameC a.c b.c && SameT a.t b.t) && decide (a.dt = b.dt)) = b14 → K12 ⟨#[.agg (a.cells).toArray, .agg (b.cells).toArray, .pointer (some ⟨g2, 0, none⟩), .pointer (some ⟨g3, 0, none⟩), .bool b14, u5, u6, u7, u8, u9, u10, u11, u12, u13, u14, u15, u16, u17, u18, u19, u20, u21, u22, u23, u24, u25, u26, u27, u28, u29, u30, u31, u32, u33, u34, u35, u36, u37, u38, u39, u40, u41, u42, u43, u44, u45, u46, u47, u48, u49, u50, u51, u52, u53, u54, u55, u56, u57, .bool false, u59, u60, u61, u62, u63, u64, u65, u66, u67, u68, u69, u70, u71, u72, u73, u74, u75, u76, u77, u78, u79, u80, u81, u82, u83, u84, u85, u86, u87, u88, u89, u90, u91, u92, u93, u94, u95, u96, u97, .bool false, u99, u100, u101, u102, u103, u104, u105, u106, u107, u108, u109, u110, u111, u112, u113, u114, u115, u116, u117], []⟩ zc12 := by
      clear Zb2 Zb3 ee
      intro u99 u100 u101 u102 u103 u104 u105 u106 u107 u108 u109 u110 u111 u112 u113 u114 u115 u116 u117 b14 zc12 Zb2 Zb3 ee hb14
      refine hK12 _ _ ?_
      refine wp_ret ?_
      cases b14
      ·exact bodyPost_ret (v := .bool false) (by kernel_rfl) rfl ⟨congrArg (fun b => Ending.returned (.bool b)) (show false = T.Ms.rsame a b from by unfold T.Ms.rsame; first | (simp only [hb7, hb11, hb14]; done) | (simp only [hb7, hb11, hb14]; rfl) | simp [hb7, hb11, hb14]), ee⟩
      exact bodyPost_ret (v := .bool true) (by kernel_rfl) rfl ⟨congrArg (fun b => Ending.returned (.bool b)) (show true = T.Ms.rsame a b from by unfold T.Ms.rsame; first | (simp only [hb7, hb11, hb14]; done) | (simp only [hb7, hb11, hb14]; rfl) | simp [hb7, hb11, hb14]), ee⟩
     refine wp_region_lit ?_
     with_reducible refine wv (.pointer (some ⟨g2, 7, none⟩)) ?_
     try simp only [nP, nN, nA, n0, nS]
     with_reducible refine wg (g2) (7) (a.c.cells) (rowMid Zb2 (7) (partOf 7 (by kernel_rfl))) Tryd.underlying45 ?_
     try simp only [nP, nN, nA, n0, nS]
     with_reducible refine wv (.pointer (some ⟨g3, 7, none⟩)) ?_
     try simp only [nP, nN, nA, n0, nS]
     with_reducible refine wg (g3) (7) (b.c.cells) (rowMid Zb3 (7) (partOf 7 (by kernel_rfl))) Tryd.underlying45 ?_
     try simp only [nP, nN, nA, n0, nS]
     with_reducible refine wc 59 #[.agg (a.c.cells).toArray, .agg (b.c.cells).toArray] (rcs a.c b.c zc9 B0 (Nat.le_trans hB ee.size) (oka.c.below ee hB) (okb.c.below ee hB)) ?_
     rintro e z3 ⟨rfl, t⟩
     refine ⟨_, rfl, ?_⟩
     have Zb2 := hpB Zb2 t
     have Zb3 := hpB Zb3 t
     have ee := ee.trans (t.mono ee.size)
     clear t
     generalize hb15 : SameC a.c b.c = b15
     try simp only [nP, nN, nA, n0, nS]
     with_reducible refine wv (.bool b15) ?_
     try simp only [nP, nN, nA, n0, nS]
     cases b15
     ·with_reducible refine wk ?_
      try simp only [nP, nN, nA, n0, nS]
      with_reducible refine wk ?_
      try simp only [nP, nN, nA, n0, nS]
      with_reducible refine wk ?_
      try simp only [nP, nN, nA, n0, nS]
      with_reducible refine wk ?_
      try simp only [nP, nN, nA, n0, nS]
      with_reducible refine wk ?_
      try simp only [nP, nN, nA, n0, nS]
      with_reducible refine wv (.bool false) ?_
      try simp only [nP, nN, nA, n0, nS]
      with_reducible refine wv (.bool false) ?_
      try simp only [nP, nN, nA, n0, nS]
      with_reducible refine wk ?_
      try simp only [nP, nN, nA, n0, nS]
      with_reducible refine wk ?_
      try simp only [nP, nN, nA, n0, nS]
      with_reducible refine wk ?_
      try simp only [nP, nN, nA, n0, nS]
      with_reducible refine wk ?_
      try simp only [nP, nN, nA, n0, nS]
      with_reducible refine wk ?_
      try simp only [nP, nN, nA, n0, nS]
      with_reducible refine wv (.bool false) ?_
      try simp only [nP, nN, nA, n0, nS]
      with_reducible refine wv (.bool false) ?_
      try simp only [nP, nN, nA, n0, nS]
      refine wpList_nil ?_
      exact hjK12 _ _ _ _ _ _ _ _ _ _ _ _ _ _ _ _ _ _ _ false _ Zb2 Zb3 ee (by first | (simp only [hb7, hb11, hb15]; done) | (simp only [hb7, hb11, hb15]; rfl) | simp [hb7, hb11, hb15])
     with_reducible refine wv (.pointer (some ⟨g2, 17, none⟩)) ?_
     try simp only [nP, nN, nA, n0, nS]
     with_reducible refine wg (g2) (17) (a.t.cells) (rowMid Zb2 (17) (partOf 17 (by kernel_rfl))) Tryd.underlying30 ?_
     try simp only [nP, nN, nA, n0, nS]
     with_reducible refine wv (.pointer (some ⟨g3, 17, none⟩)) ?_
     try simp only [nP, nN, nA, n0, nS]
     with_reducible refine wg (g3) (17) (b.t.cells) (rowMid Zb3 (17) (partOf 17 (by kernel_rfl))) Tryd.underlying30 ?_
     try simp only [nP, nN, nA, n0, nS]
     with_reducible refine wc 60 #[.agg (a.t.cells).toArray, .agg (b.t.cells).toArray] (rts a.t b.t z3 B0 (Nat.le_trans hB ee.size) (oka.t.below ee hB) (okb.t.below ee hB)) ?_
     rintro e z4 ⟨rfl, t⟩
     refine ⟨_, rfl, ?_⟩
     have Zb2 := hpB Zb2 t
     have Zb3 := hpB Zb3 t
     have ee := ee.trans (t.mono ee.size)
     clear t
     generalize hb16 : SameT a.t b.t = b16
     try simp only [nP, nN, nA, n0, nS]
     with_reducible refine wv (.bool b16) ?_
     try simp only [nP, nN, nA, n0, nS]
     with_reducible refine wv (.bool b16) ?_
     try simp only [nP, nN, nA, n0, nS]
     cases b16
     ·with_reducible refine wk ?_
      try simp only [nP, nN, nA, n0, nS]
      with_reducible refine wk ?_
      try simp only [nP, nN, nA, n0, nS]
      with_reducible refine wk ?_
      try simp only [nP, nN, nA, n0, nS]
      with_reducible refine wk ?_
      try simp only [nP, nN, nA, n0, nS]
      with_reducible refine wk ?_
      try simp only [nP, nN, nA, n0, nS]
      with_reducible refine wv (.bool false) ?_
      try simp only [nP, nN, nA, n0, nS]
      with_reducible refine wv (.bool false) ?_
      try simp only [nP, nN, nA, n0, nS]
      refine wpList_nil ?_
      exact hjK12 _ _ _ _ _ _ _ _ _ _ _ _ _ _ _ _ _ _ _ false _ Zb2 Zb3 ee (by first | (simp only [hb7, hb11, hb15, hb16]; done) | (simp only [hb7, hb11, hb15, hb16]; rfl) | simp [hb7, hb11, hb15, hb16])
     with_reducible refine wv (.pointer (some ⟨g2, 33, none⟩)) ?_
     try simp only [nP, nN, nA, n0, nS]
     with_reducible refine wl (.slice a.D a.dt.length a.dc) ⟨g2, 33, none⟩ (rowCell Zb2 (33) rfl) Tryd.underlying37 ?_
     try simp only [nP, nN, nA, n0, nS]
     with_reducible refine wv (.pointer (some ⟨g3, 33, none⟩)) ?_
     try simp only [nP, nN, nA, n0, nS]
     with_reducible refine wl (.slice b.D b.dt.length b.dc) ⟨g3, 33, none⟩ (rowCell Zb3 (33) rfl) Tryd.underlying37 ?_
     try simp only [nP, nN, nA, n0, nS]
     with_reducible refine wc 22 #[.slice a.D a.dt.length a.dc, .slice b.D b.dt.length b.dc] (samed_any a.D b.D a.dc b.dc a.dt b.dt z4 B0 B0 (small_dt sa) (small_dt sb) (oka.below ee hB).d (okb.below ee hB).d oka.dl okb.dl) ?_
     rintro e z5 ⟨rfl, t⟩
     refine ⟨_, rfl, ?_⟩
     have Zb2 := hpB Zb2 t
     have Zb3 := hpB Zb3 t
     have ee := ee.trans (t.mono ee.size)
     clear t
     generalize hb17 : decide (a.dt = b.dt) = b17
     try simp only [nP, nN, nA, n0, nS]
     with_reducible refine wv (.bool b17) ?_
     try simp only [nP, nN, nA, n0, nS]
     with_reducible refine wv (.bool b17) ?_
     try simp only [nP, nN, nA, n0, nS]
     refine wpList_nil ?_
     exact hjK12 _ _ _ _ _ _ _ _ _ _ _ _ _ _ _ _ _ _ _ b17 _ Zb2 Zb3 ee (by first | (simp only [hb7, hb11, hb15, hb16, hb17]; done) | (simp only [hb7, hb11, hb15, hb16, hb17]; rfl) | simp [hb7, hb11, hb15, hb16, hb17])
    refine wp_cond_true (by kernel_rfl) ?_
    refine wp_seq_k fun K18 hK18 => ?_
    refine wp_region_lit ?_
    with_reducible refine wv (.bool false) ?_
    try simp only [nP, nN, nA, n0, nS]
    refine wpList_nil ?_
    refine hK18 _ _ ?_
    refine wp_ret ?_
    refine then_ret ?_
    exact bodyPost_ret (v := .bool false) (by kernel_rfl) rfl ⟨congrArg (fun b => Ending.returned (.bool b)) (show false = T.Ms.rsame a b from by unfold T.Ms.rsame; first | (simp only [hb7, hb11]; done) | (simp only [hb7, hb11]; rfl) | simp [hb7, hb11]), ee⟩
   refine wp_region_lit ?_
   with_reducible refine wv (.pointer (some ⟨g2, 25, none⟩)) ?_
   try simp only [nP, nN, nA, n0, nS]
   with_reducible refine wl (.bool a.ye) ⟨g2, 25, none⟩ (rowCell Zb2 (25) rfl) Tryd.underlying4 ?_
   generalize hb19 : a.ye = b19
   try simp only [nP, nN, nA, n0, nS]
   with_reducible refine wv (.pointer (some ⟨g3, 25, none⟩)) ?_
   try simp only [nP, nN, nA, n0, nS]
   with_reducible refine wl (.bool b.ye) ⟨g3, 25, none⟩ (rowCell Zb3 (25) rfl) Tryd.underlying4 ?_
   generalize hb20 : b.ye = b20
   try simp only [nP, nN, nA, n0, nS]
   cases b19
   ·cases b20
    ·with_reducible refine wv (.bool false) ?_
     try simp only [nP, nN, nA, n0, nS]
     with_reducible refine wv (.bool false) ?_
     try simp only [nP, nN, nA, n0, nS]
     with_reducible refine wv (.pointer (some ⟨g2, 26, none⟩)) ?_
     try simp only [nP, nN, nA, n0, nS]
     with_reducible refine wl (.int .i64 a.nu) ⟨g2, 26, none⟩ (rowCell Zb2 (26) rfl) Tryd.underlying3 ?_
     try simp only [nP, nN, nA, n0, nS]
     with_reducible refine wv (.pointer (some ⟨g3, 26, none⟩)) ?_
     try simp only [nP, nN, nA, n0, nS]
     with_reducible refine wl (.int .i64 b.nu) ⟨g3, 26, none⟩ (rowCell Zb3 (26) rfl) Tryd.underlying3 ?_
     try simp only [nP, nN, nA, n0, nS]
     obtain ⟨b21, hb21⟩ : ∃ d_ : Bool, (decide (a.nu = b.nu)) = d_ := ⟨_, rfl⟩
     cases b21
     ·have pb21 : ¬ (a.nu = b.nu) := of_decide_eq_false hb21
      with_reducible refine wb (.bool true) (.int .i64 a.nu) (.int .i64 b.nu) 3 (run_neqI hb21) ?_
      try simp only [nP, nN, nA, n0, nS]
      with_reducible refine wv (.bool true) ?_
      try simp only [nP, nN, nA, n0, nS]
      with_reducible refine wv (.bool true) ?_
      try simp only [nP, nN, nA, n0, nS]
      with_reducible refine wk ?_
      try simp only [nP, nN, nA, n0, nS]
      with_reducible refine wk ?_
      try simp only [nP, nN, nA, n0, nS]
      with_reducible refine wk ?_
      try simp only [nP, nN, nA, n0, nS]
      with_reducible refine wk ?_
      try simp only [nP, nN, nA, n0, nS]
      with_reducible refine wk ?_
      try simp only [nP, nN, nA, n0, nS]
      with_reducible refine wv (.bool true) ?_
      try simp only [nP, nN, nA, n0, nS]
      with_reducible refine wv (.bool true) ?_
      try simp only [nP, nN, nA, n0, nS]
      with_reducible refine wk ?_
      try simp only [nP, nN, nA, n0, nS]
      with_reducible refine wk ?_
      try simp only [nP, nN, nA, n0, nS]
      with_reducible refine wk ?_
      try simp only [nP, nN, nA, n0, nS]
      with_reducible refine wk ?_
      try simp only [nP, nN, nA, n0, nS]
      with_reducible refine wk ?_
      try simp only [nP, nN, nA, n0, nS]
      with_reducible refine wv (.bool true) ?_
      try simp only [nP, nN, nA, n0, nS]
      with_reducible refine wv (.bool true) ?_
      try simp only [nP, nN, nA, n0, nS]
      with_reducible refine wk ?_
      try simp only [nP, nN, nA, n0, nS]
      with_reducible refine wk ?_
      try simp only [nP, nN, nA, n0, nS]
      with_reducible refine wk ?_
      try simp only [nP, nN, nA, n0, nS]
      with_reducible refine wk ?_
      try simp only [nP, nN, nA, n0, nS]
      with_reducible refine wk ?_
      try simp only [nP, nN, nA, n0, nS]
      with_reducible refine wv (.bool true) ?_
      try simp only [nP, nN, nA, n0, nS]
      with_reducible refine wv (.bool true) ?_
      try simp only [nP, nN, nA, n0, nS]
      with_reducible refine wk ?_
      try simp only [nP, nN, nA, n0, nS]
      with_reducible refine wk ?_
      try simp only [nP, nN, nA, n0, nS]
      with_reducible refine wk ?_
      try simp only [nP, nN, nA, n0, nS]
      with_reducible refine wk ?_
      try simp only [nP, nN, nA, n0, nS]
      with_reducible refine wk ?_
      try simp only [nP, nN, nA, n0, nS]
      with_reducible refine wv (.bool true) ?_
      try simp only [nP, nN, nA, n0, nS]
      refine wpList_nil ?_
      exact hjK9 _ _ _ _ _ _ _ _ _ _ _ _ _ _ _ _ _ _ _ _ _ _ _ _ _ _ _ _ _ _ _ _ _ _ _ _ _ _ _ true _ Zb2 Zb3 ee (by first | (simp only [hb7, hb19, hb20, hb21]; done) | (simp only [hb7, hb19, hb20, hb21]; rfl) | simp [hb7, hb19, hb20, hb21])
     have pb21 : a.nu = b.nu := of_decide_eq_true hb21
     with_reducible refine wb (.bool false) (.int .i64 a.nu) (.int .i64 b.nu) 3 (run_neqI hb21) ?_
     try simp only [nP, nN, nA, n0, nS]
     with_reducible refine wv (.bool false) ?_
     try simp only [nP, nN, nA, n0, nS]
     with_reducible refine wv (.bool false) ?_
     try simp only [nP, nN, nA, n0, nS]
     with_reducible refine wv (.pointer (some ⟨g2, 27, none⟩)) ?_
     try simp only [nP, nN, nA, n0, nS]
     with_reducible refine wl (.string a.ky) ⟨g2, 27, none⟩ (rowCell Zb2 (27) rfl) Tryd.underlying9 ?_
     try simp only [nP, nN, nA, n0, nS]
     with_reducible refine wv (.pointer (some ⟨g3, 27, none⟩)) ?_
     try simp only [nP, nN, nA, n0, nS]
     with_reducible refine wl (.string b.ky) ⟨g3, 27, none⟩ (rowCell Zb3 (27) rfl) Tryd.underlying9 ?_
     try simp only [nP, nN, nA, n0, nS]
     obtain ⟨b22, hb22⟩ : ∃ d_ : Bool, ((a.ky.data.toList == b.ky.data.toList)) = d_ := ⟨_, rfl⟩
     cases b22
     ·with_reducible refine wb (.bool true) (.string a.ky) (.string b.ky) 9 (run_sneB hb22) ?_
      try simp only [nP, nN, nA, n0, nS]
      with_reducible refine wv (.bool true) ?_
      try simp only [nP, nN, nA, n0, nS]
      with_reducible refine wv (.bool true) ?_
      try simp only [nP, nN, nA, n0, nS]
      with_reducible refine wk ?_
      try simp only [nP, nN, nA, n0, nS]
      with_reducible refine wk ?_
      try simp only [nP, nN, nA, n0, nS]
      with_reducible refine wk ?_
      try simp only [nP, nN, nA, n0, nS]
      with_reducible refine wk ?_
      try simp only [nP, nN, nA, n0, nS]
      with_reducible refine wk ?_
      try simp only [nP, nN, nA, n0, nS]
      with_reducible refine wv (.bool true) ?_
      try simp only [nP, nN, nA, n0, nS]
      with_reducible refine wv (.bool true) ?_
      try simp only [nP, nN, nA, n0, nS]
      with_reducible refine wk ?_
      try simp only [nP, nN, nA, n0, nS]
      with_reducible refine wk ?_
      try simp only [nP, nN, nA, n0, nS]
      with_reducible refine wk ?_
      try simp only [nP, nN, nA, n0, nS]
      with_reducible refine wk ?_
      try simp only [nP, nN, nA, n0, nS]
      with_reducible refine wk ?_
      try simp only [nP, nN, nA, n0, nS]
      with_reducible refine wv (.bool true) ?_
      try simp only [nP, nN, nA, n0, nS]
      with_reducible refine wv (.bool true) ?_
      try simp only [nP, nN, nA, n0, nS]
      with_reducible refine wk ?_
      try simp only [nP, nN, nA, n0, nS]
      with_reducible refine wk ?_
      try simp only [nP, nN, nA, n0, nS]
      with_reducible refine wk ?_
      try simp only [nP, nN, nA, n0, nS]
      with_reducible refine wk ?_
      try simp only [nP, nN, nA, n0, nS]
      with_reducible refine wk ?_
      try simp only [nP, nN, nA, n0, nS]
      with_reducible refine wv (.bool true) ?_
      try simp only [nP, nN, nA, n0, nS]
      refine wpList_nil ?_
      exact hjK9 _ _ _ _ _ _ _ _ _ _ _ _ _ _ _ _ _ _ _ _ _ _ _ _ _ _ _ _ _ _ _ _ _ _ _ _ _ _ _ true _ Zb2 Zb3 ee (by first | (simp only [hb7, hb19, hb20, hb21, hb22]; done) | (simp only [hb7, hb19, hb20, hb21, hb22]; rfl) | simp [hb7, hb19, hb20, hb21, hb22])
     with_reducible refine wb (.bool false) (.string a.ky) (.string b.ky) 9 (run_sneB hb22) ?_
     try simp only [nP, nN, nA, n0, nS]
     with_reducible refine wv (.bool false) ?_
     try simp only [nP, nN, nA, n0, nS]
     with_reducible refine wv (.bool false) ?_
     try simp only [nP, nN, nA, n0, nS]
     with_reducible refine wv (.pointer (some ⟨g2, 28, none⟩)) ?_
     try simp only [nP, nN, nA, n0, nS]
     with_reducible refine wl (.int .u64 ((a.ve : Int))) ⟨g2, 28, none⟩ (rowCell Zb2 (28) rfl) Tryd.underlying31 ?_
     try simp only [nP, nN, nA, n0, nS]
     with_reducible refine wv (.pointer (some ⟨g3, 28, none⟩)) ?_
     try simp only [nP, nN, nA, n0, nS]
     with_reducible refine wl (.int .u64 ((b.ve : Int))) ⟨g3, 28, none⟩ (rowCell Zb3 (28) rfl) Tryd.underlying31 ?_
     try simp only [nP, nN, nA, n0, nS]
     obtain ⟨b23, hb23⟩ : ∃ d_ : Bool, (decide ((a.ve : Int) = (b.ve : Int))) = d_ := ⟨_, rfl⟩
     cases b23
     ·have pb23 : ¬ ((a.ve : Int) = (b.ve : Int)) := of_decide_eq_false hb23
      with_reducible refine wb (.bool true) (.int .u64 ((a.ve : Int))) (.int .u64 ((b.ve : Int))) 31 (run_neqI hb23) ?_
      try simp only [nP, nN, nA, n0, nS]
      with_reducible refine wv (.bool true) ?_
      try simp only [nP, nN, nA, n0, nS]
      with_reducible refine wv (.bool true) ?_
      try simp only [nP, nN, nA, n0, nS]
      with_reducible refine wk ?_
      try simp only [nP, nN, nA, n0, nS]
      with_reducible refine wk ?_
      try simp only [nP, nN, nA, n0, nS]
      with_reducible refine wk ?_
      try simp only [nP, nN, nA, n0, nS]
      with_reducible refine wk ?_
      try simp only [nP, nN, nA, n0, nS]
      with_reducible refine wk ?_
      try simp only [nP, nN, nA, n0, nS]
      with_reducible refine wv (.bool true) ?_
      try simp only [nP, nN, nA, n0, nS]
      with_reducible refine wv (.bool true) ?_
      try simp only [nP, nN, nA, n0, nS]
      with_reducible refine wk ?_
      try simp only [nP, nN, nA, n0, nS]
      with_reducible refine wk ?_
      try simp only [nP, nN, nA, n0, nS]
      with_reducible refine wk ?_
      try simp only [nP, nN, nA, n0, nS]
      with_reducible refine wk ?_
      try simp only [nP, nN, nA, n0, nS]
      with_reducible refine wk ?_
      try simp only [nP, nN, nA, n0, nS]
      with_reducible refine wv (.bool true) ?_
      try simp only [nP, nN, nA, n0, nS]
      refine wpList_nil ?_
      exact hjK9 _ _ _ _ _ _ _ _ _ _ _ _ _ _ _ _ _ _ _ _ _ _ _ _ _ _ _ _ _ _ _ _ _ _ _ _ _ _ _ true _ Zb2 Zb3 ee (by first | (simp only [hb7, hb19, hb20, hb21, hb22, hb23]; done) | (simp only [hb7, hb19, hb20, hb21, hb22, hb23]; rfl) | simp [hb7, hb19, hb20, hb21, hb22, hb23])
     have pb23 : (a.ve : Int) = (b.ve : Int) := of_decide_eq_true hb23
     with_reducible refine wb (.bool false) (.int .u64 ((a.ve : Int))) (.int .u64 ((b.ve : Int))) 31 (run_neqI hb23) ?_
     try simp only [nP, nN, nA, n0, nS]
     with_reducible refine wv (.bool false) ?_
     try simp only [nP, nN, nA, n0, nS]
     with_reducible refine wv (.bool false) ?_
     try simp only [nP, nN, nA, n0, nS]
     with_reducible refine wv (.pointer (some ⟨g2, 29, none⟩)) ?_
     try simp only [nP, nN, nA, n0, nS]
     with_reducible refine wg (g2) (29) ([.int .i64 a.vk, .int .u64 (a.vb : Int), .string a.vt]) (rowMid Zb2 (29) (partOf 29 (by kernel_rfl))) Tryd.underlying35 ?_
     try simp only [nP, nN, nA, n0, nS]
     with_reducible refine wv (.pointer (some ⟨g3, 29, none⟩)) ?_
     try simp only [nP, nN, nA, n0, nS]
     with_reducible refine wg (g3) (29) ([.int .i64 b.vk, .int .u64 (b.vb : Int), .string b.vt]) (rowMid Zb3 (29) (partOf 29 (by kernel_rfl))) Tryd.underlying35 ?_
     try simp only [nP, nN, nA, n0, nS]
     obtain ⟨b24, hb24⟩ : ∃ d_ : Bool, (decide (a.vk = b.vk ∧ a.vb = b.vb ∧ a.vt.data.toList = b.vt.data.toList)) = d_ := ⟨_, rfl⟩
     cases b24
     ·with_reducible refine wb (.bool true) (.agg ([.int .i64 a.vk, .int .u64 (a.vb : Int), .string a.vt]).toArray) (.agg ([.int .i64 b.vk, .int .u64 (b.vb : Int), .string b.vt]).toArray) 35 (run_neOfEq (by have := run_eqvD a.vk a.vb a.vt b.vk b.vb b.vt zc5; rw [hb24] at this; exact this)) ?_
      try simp only [nP, nN, nA, n0, nS]
      with_reducible refine wv (.bool true) ?_
      try simp only [nP, nN, nA, n0, nS]
      with_reducible refine wv (.bool true) ?_
      try simp only [nP, nN, nA, n0, nS]
      with_reducible refine wk ?_
      try simp only [nP, nN, nA, n0, nS]
      with_reducible refine wk ?_
      try simp only [nP, nN, nA, n0, nS]
      with_reducible refine wk ?_
      try simp only [nP, nN, nA, n0, nS]
      with_reducible refine wk ?_
      try simp only [nP, nN, nA, n0, nS]
      with_reducible refine wk ?_
      try simp only [nP, nN, nA, n0, nS]
      with_reducible refine wv (.bool true) ?_
      try simp only [nP, nN, nA, n0, nS]
      refine wpList_nil ?_
      exact hjK9 _ _ _ _ _ _ _ _ _ _ _ _ _ _ _ _ _ _ _ _ _ _ _ _ _ _ _ _ _ _ _ _ _ _ _ _ _ _ _ true _ Zb2 Zb3 ee (by first | (simp only [hb7, hb19, hb20, hb21, hb22, hb23, hb24]; done) | (simp only [hb7, hb19, hb20, hb21, hb22, hb23, hb24]; rfl) | simp [hb7, hb19, hb20, hb21, hb22, hb23, hb24])
     with_reducible refine wb (.bool false) (.agg ([.int .i64 a.vk, .int .u64 (a.vb : Int), .string a.vt]).toArray) (.agg ([.int .i64 b.vk, .int .u64 (b.vb : Int), .string b.vt]).toArray) 35 (run_neOfEq (by have := run_eqvD a.vk a.vb a.vt b.vk b.vb b.vt zc5; rw [hb24] at this; exact this)) ?_
     try simp only [nP, nN, nA, n0, nS]
     with_reducible refine wv (.bool false) ?_
     try simp only [nP, nN, nA, n0, nS]
     with_reducible refine wv (.bool false) ?_
     try simp only [nP, nN, nA, n0, nS]
     with_reducible refine wv (.pointer (some ⟨g2, 32, none⟩)) ?_
     try simp only [nP, nN, nA, n0, nS]
     with_reducible refine wl (.int .i64 a.er) ⟨g2, 32, none⟩ (rowCell Zb2 (32) rfl) Tryd.underlying36 ?_
     try simp only [nP, nN, nA, n0, nS]
     with_reducible refine wv (.pointer (some ⟨g3, 32, none⟩)) ?_
     try simp only [nP, nN, nA, n0, nS]
     with_reducible refine wl (.int .i64 b.er) ⟨g3, 32, none⟩ (rowCell Zb3 (32) rfl) Tryd.underlying36 ?_
     try simp only [nP, nN, nA, n0, nS]
     obtain ⟨b25, hb25⟩ : ∃ d_ : Bool, (decide (a.er = b.er)) = d_ := ⟨_, rfl⟩
     cases b25
     ·have pb25 : ¬ (a.er = b.er) := of_decide_eq_false hb25
      with_reducible refine wb (.bool true) (.int .i64 a.er) (.int .i64 b.er) 36 (run_neqI hb25) ?_
      try simp only [nP, nN, nA, n0, nS]
      with_reducible refine wv (.bool true) ?_
      try simp only [nP, nN, nA, n0, nS]
      refine wpList_nil ?_
      exact hjK9 _ _ _ _ _ _ _ _ _ _ _ _ _ _ _ _ _ _ _ _ _ _ _ _ _ _ _ _ _ _ _ _ _ _ _ _ _ _ _ true _ Zb2 Zb3 ee (by first | (simp only [hb7, hb19, hb20, hb21, hb22, hb23, hb24, hb25]; done) | (simp only [hb7, hb19, hb20, hb21, hb22, hb23, hb24, hb25]; rfl) | simp [hb7, hb19, hb20, hb21, hb22, hb23, hb24, hb25])
     have pb25 : a.er = b.er := of_decide_eq_true hb25
     with_reducible refine wb (.bool false) (.int .i64 a.er) (.int .i64 b.er) 36 (run_neqI hb25) ?_
     try simp only [nP, nN, nA, n0, nS]
     with_reducible refine wv (.bool false) ?_
     try simp only [nP, nN, nA, n0, nS]
     refine wpList_nil ?_
     exact hjK9 _ _ _ _ _ _ _ _ _ _ _ _ _ _ _ _ _ _ _ _ _ _ _ _ _ _ _ _ _ _ _ _ _ _ _ _ _ _ _ false _ Zb2 Zb3 ee (by first | (simp only [hb7, hb19, hb20, hb21, hb22, hb23, hb24, hb25]; done) | (simp only [hb7, hb19, hb20, hb21, hb22, hb23, hb24, hb25]; rfl) | simp [hb7, hb19, hb20, hb21, hb22, hb23, hb24, hb25])
    with_reducible refine wv (.bool true) ?_
    try simp only [nP, nN, nA, n0, nS]
    with_reducible refine wv (.bool true) ?_
    try simp only [nP, nN, nA, n0, nS]
    with_reducible refine wk ?_
    try simp only [nP, nN, nA, n0, nS]
    with_reducible refine wk ?_
    try simp only [nP, nN, nA, n0, nS]
    with_reducible refine wk ?_
    try simp only [nP, nN, nA, n0, nS]
    with_reducible refine wk ?_
    try simp only [nP, nN, nA, n0, nS]
    with_reducible refine wk ?_
    try simp only [nP, nN, nA, n0, nS]
    with_reducible refine wv (.bool true) ?_
    try simp only [nP, nN, nA, n0, nS]
    with_reducible refine wv (.bool true) ?_
    try simp only [nP, nN, nA, n0, nS]
    with_reducible refine wk ?_
    try simp only [nP, nN, nA, n0, nS]
    with_reducible refine wk ?_
    try simp only [nP, nN, nA, n0, nS]
    with_reducible refine wk ?_
    try simp only [nP, nN, nA, n0, nS]
    with_reducible refine wk ?_
    try simp only [nP, nN, nA, n0, nS]
    with_reducible refine wk ?_
    try simp only [nP, nN, nA, n0, nS]
    with_reducible refine wv (.bool true) ?_
    try simp only [nP, nN, nA, n0, nS]
    with_reducible refine wv (.bool true) ?_
    try simp only [nP, nN, nA, n0, nS]
    with_reducible refine wk ?_
    try simp only [nP, nN, nA, n0, nS]
    with_reducible refine wk ?_
    try simp only [nP, nN, nA, n0, nS]
    with_reducible refine wk ?_
    try simp only [nP, nN, nA, n0, nS]
    with_reducible refine wk ?_
    try simp only [nP, nN, nA, n0, nS]
    with_reducible refine wk ?_
    try simp only [nP, nN, nA, n0, nS]
    with_reducible refine wv (.bool true) ?_
    try simp only [nP, nN, nA, n0, nS]
    with_reducible refine wv (.bool true) ?_
    try simp only [nP, nN, nA, n0, nS]
    with_reducible refine wk ?_
    try simp only [nP, nN, nA, n0, nS]
    with_reducible refine wk ?_
    try simp only [nP, nN, nA, n0, nS]
    with_reducible refine wk ?_
    try simp only [nP, nN, nA, n0, nS]
    with_reducible refine wk ?_
    try simp only [nP, nN, nA, n0, nS]
    with_reducible refine wk ?_
    try simp only [nP, nN, nA, n0, nS]
    with_reducible refine wv (.bool true) ?_
    try simp only [nP, nN, nA, n0, nS]
    with_reducible refine wv (.bool true) ?_
    try simp only [nP, nN, nA, n0, nS]
    with_reducible refine wk ?_
    try simp only [nP, nN, nA, n0, nS]
    with_reducible refine wk ?_
    try simp only [nP, nN, nA, n0, nS]
    with_reducible refine wk ?_
    try simp only [nP, nN, nA, n0, nS]
    with_reducible refine wk ?_
    try simp only [nP, nN, nA, n0, nS]
    with_reducible refine wk ?_
    try simp only [nP, nN, nA, n0, nS]
    with_reducible refine wv (.bool true) ?_
    try simp only [nP, nN, nA, n0, nS]
    refine wpList_nil ?_
    exact hjK9 _ _ _ _ _ _ _ _ _ _ _ _ _ _ _ _ _ _ _ _ _ _ _ _ _ _ _ _ _ _ _ _ _ _ _ _ _ _ _ true _ Zb2 Zb3 ee (by first | (simp only [hb7, hb19, hb20]; done) | (simp only [hb7, hb19, hb20]; rfl) | simp [hb7, hb19, hb20])
   cases b20
   ·with_reducible refine wv (.bool true) ?_
    try simp only [nP, nN, nA, n0, nS]
    with_reducible refine wv (.bool true) ?_
    try simp only [nP, nN, nA, n0, nS]
    with_reducible refine wk ?_
    try simp only [nP, nN, nA, n0, nS]
    with_reducible refine wk ?_
    try simp only [nP, nN, nA, n0, nS]
    with_reducible refine wk ?_
    try simp only [nP, nN, nA, n0, nS]
    with_reducible refine wk ?_
    try simp only [nP, nN, nA, n0, nS]
    with_reducible refine wk ?_
    try simp only [nP, nN, nA, n0, nS]
    with_reducible refine wv (.bool true) ?_
    try simp only [nP, nN, nA, n0, nS]
    with_reducible refine wv (.bool true) ?_
    try simp only [nP, nN, nA, n0, nS]
    with_reducible refine wk ?_
    try simp only [nP, nN, nA, n0, nS]
    with_reducible refine wk ?_
    try simp only [nP, nN, nA, n0, nS]
    with_reducible refine wk ?_
    try simp only [nP, nN, nA, n0, nS]
    with_reducible refine wk ?_
    try simp only [nP, nN, nA, n0, nS]
    with_reducible refine wk ?_
    try simp only [nP, nN, nA, n0, nS]
    with_reducible refine wv (.bool true) ?_
    try simp only [nP, nN, nA, n0, nS]
    with_reducible refine wv (.bool true) ?_
    try simp only [nP, nN, nA, n0, nS]
    with_reducible refine wk ?_
    try simp only [nP, nN, nA, n0, nS]
    with_reducible refine wk ?_
    try simp only [nP, nN, nA, n0, nS]
    with_reducible refine wk ?_
    try simp only [nP, nN, nA, n0, nS]
    with_reducible refine wk ?_
    try simp only [nP, nN, nA, n0, nS]
    with_reducible refine wk ?_
    try simp only [nP, nN, nA, n0, nS]
    with_reducible refine wv (.bool true) ?_
    try simp only [nP, nN, nA, n0, nS]
    with_reducible refine wv (.bool true) ?_
    try simp only [nP, nN, nA, n0, nS]
    with_reducible refine wk ?_
    try simp only [nP, nN, nA, n0, nS]
    with_reducible refine wk ?_
    try simp only [nP, nN, nA, n0, nS]
    with_reducible refine wk ?_
    try simp only [nP, nN, nA, n0, nS]
    with_reducible refine wk ?_
    try simp only [nP, nN, nA, n0, nS]
    with_reducible refine wk ?_
    try simp only [nP, nN, nA, n0, nS]
    with_reducible refine wv (.bool true) ?_
    try simp only [nP, nN, nA, n0, nS]
    with_reducible refine wv (.bool true) ?_
    try simp only [nP, nN, nA, n0, nS]
    with_reducible refine wk ?_
    try simp only [nP, nN, nA, n0, nS]
    with_reducible refine wk ?_
    try simp only [nP, nN, nA, n0, nS]
    with_reducible refine wk ?_
    try simp only [nP, nN, nA, n0, nS]
    with_reducible refine wk ?_
    try simp only [nP, nN, nA, n0, nS]
    with_reducible refine wk ?_
    try simp only [nP, nN, nA, n0, nS]
    with_reducible refine wv (.bool true) ?_
    try simp only [nP, nN, nA, n0, nS]
    refine wpList_nil ?_
    exact hjK9 _ _ _ _ _ _ _ _ _ _ _ _ _ _ _ _ _ _ _ _ _ _ _ _ _ _ _ _ _ _ _ _ _ _ _ _ _ _ _ true _ Zb2 Zb3 ee (by first | (simp only [hb7, hb19, hb20]; done) | (simp only [hb7, hb19, hb20]; rfl) | simp [hb7, hb19, hb20])
   with_reducible refine wv (.bool false) ?_
   try simp only [nP, nN, nA, n0, nS]
   with_reducible refine wv (.bool false) ?_
   try simp only [nP, nN, nA, n0, nS]
   with_reducible refine wv (.pointer (some ⟨g2, 26, none⟩)) ?_
   try simp only [nP, nN, nA, n0, nS]
   with_reducible refine wl (.int .i64 a.nu) ⟨g2, 26, none⟩ (rowCell Zb2 (26) rfl) Tryd.underlying3 ?_
   try simp only [nP, nN, nA, n0, nS]
   with_reducible refine wv (.pointer (some ⟨g3, 26, none⟩)) ?_
   try simp only [nP, nN, nA, n0, nS]
   with_reducible refine wl (.int .i64 b.nu) ⟨g3, 26, none⟩ (rowCell Zb3 (26) rfl) Tryd.underlying3 ?_
   try simp only [nP, nN, nA, n0, nS]
   obtain ⟨b26, hb26⟩ : ∃ d_ : Bool, (decide (a.nu = b.nu)) = d_ := ⟨_, rfl⟩
   cases b26
   ·have pb26 : ¬ (a.nu = b.nu) := of_decide_eq_false hb26
    with_reducible refine wb (.bool true) (.int .i64 a.nu) (.int .i64 b.nu) 3 (run_neqI hb26) ?_
    try simp only [nP, nN, nA, n0, nS]
    with_reducible refine wv (.bool true) ?_
    try simp only [nP, nN, nA, n0, nS]
    with_reducible refine wv (.bool true) ?_
    try simp only [nP, nN, nA, n0, nS]
    with_reducible refine wk ?_
    try simp only [nP, nN, nA, n0, nS]
    with_reducible refine wk ?_
    try simp only [nP, nN, nA, n0, nS]
    with_reducible refine wk ?_
    try simp only [nP, nN, nA, n0, nS]
    with_reducible refine wk ?_
    try simp only [nP, nN, nA, n0, nS]
    with_reducible refine wk ?_
    try simp only [nP, nN, nA, n0, nS]
    with_reducible refine wv (.bool true) ?_
    try simp only [nP, nN, nA, n0, nS]
    with_reducible refine wv (.bool true) ?_
    try simp only [nP, nN, nA, n0, nS]
    with_reducible refine wk ?_
    try simp only [nP, nN, nA, n0, nS]
    with_reducible refine wk ?_
    try simp only [nP, nN, nA, n0, nS]
    with_reducible refine wk ?_
    try simp only [nP, nN, nA, n0, nS]
    with_reducible refine wk ?_
    try simp only [nP, nN, nA, n0, nS]
    with_reducible refine wk ?_
    try simp only [nP, nN, nA, n0, nS]
    with_reducible refine wv (.bool true) ?_
    try simp only [nP, nN, nA, n0, nS]
    with_reducible refine wv (.bool true) ?_
    try simp only [nP, nN, nA, n0, nS]
    with_reducible refine wk ?_
    try simp only [nP, nN, nA, n0, nS]
    with_reducible refine wk ?_
    try simp only [nP, nN, nA, n0, nS]
    with_reducible refine wk ?_
    try simp only [nP, nN, nA, n0, nS]
    with_reducible refine wk ?_
    try simp only [nP, nN, nA, n0, nS]
    with_reducible refine wk ?_
    try simp only [nP, nN, nA, n0, nS]
    with_reducible refine wv (.bool true) ?_
    try simp only [nP, nN, nA, n0, nS]
    with_reducible refine wv (.bool true) ?_
    try simp only [nP, nN, nA, n0, nS]
    with_reducible refine wk ?_
    try simp only [nP, nN, nA, n0, nS]
    with_reducible refine wk ?_
    try simp only [nP, nN, nA, n0, nS]
    with_reducible refine wk ?_
    try simp only [nP, nN, nA, n0, nS]
    with_reducible refine wk ?_
    try simp only [nP, nN, nA, n0, nS]
    with_reducible refine wk ?_
    try simp only [nP, nN, nA, n0, nS]
    with_reducible refine wv (.bool true) ?_
    try simp only [nP, nN, nA, n0, nS]
    refine wpList_nil ?_
    exact hjK9 _ _ _ _ _ _ _ _ _ _ _ _ _ _ _ _ _ _ _ _ _ _ _ _ _ _ _ _ _ _ _ _ _ _ _ _ _ _ _ true _ Zb2 Zb3 ee (by first | (simp only [hb7, hb19, hb20, hb26]; done) | (simp only [hb7, hb19, hb20, hb26]; rfl) | simp [hb7, hb19, hb20, hb26])
   have pb26 : a.nu = b.nu := of_decide_eq_true hb26
   with_reducible refine wb (.bool false) (.int .i64 a.nu) (.int .i64 b.nu) 3 (run_neqI hb26) ?_
   try simp only [nP, nN, nA, n0, nS]
   with_reducible refine wv (.bool false) ?_
   try simp only [nP, nN, nA, n0, nS]
   with_reducible refine wv (.bool false) ?_
   try simp only [nP, nN, nA, n0, nS]
   with_reducible refine wv (.pointer (some ⟨g2, 27, none⟩)) ?_
   try simp only [nP, nN, nA, n0, nS]
   with_reducible refine wl (.string a.ky) ⟨g2, 27, none⟩ (rowCell Zb2 (27) rfl) Tryd.underlying9 ?_
   try simp only [nP, nN, nA, n0, nS]
   with_reducible refine wv (.pointer (some ⟨g3, 27, none⟩)) ?_
   try simp only [nP, nN, nA, n0, nS]
   with_reducible refine wl (.string b.ky) ⟨g3, 27, none⟩ (rowCell Zb3 (27) rfl) Tryd.underlying9 ?_
   try simp only [nP, nN, nA, n0, nS]
   obtain ⟨b27, hb27⟩ : ∃ d_ : Bool, ((a.ky.data.toList == b.ky.data.toList)) = d_ := ⟨_, rfl⟩
   cases b27
   ·with_reducible refine wb (.bool true) (.string a.ky) (.string b.ky) 9 (run_sneB hb27) ?_
    try simp only [nP, nN, nA, n0, nS]
    with_reducible refine wv (.bool true) ?_
    try simp only [nP, nN, nA, n0, nS]
    with_reducible refine wv (.bool true) ?_
    try simp only [nP, nN, nA, n0, nS]
    with_reducible refine wk ?_
    try simp only [nP, nN, nA, n0, nS]
    with_reducible refine wk ?_
    try simp only [nP, nN, nA, n0, nS]
    with_reducible refine wk ?_
    try simp only [nP, nN, nA, n0, nS]
    with_reducible refine wk ?_
    try simp only [nP, nN, nA, n0, nS]
    with_reducible refine wk ?_
    try simp only [nP, nN, nA, n0, nS]
    with_reducible refine wv (.bool true) ?_
    try simp only [nP, nN, nA, n0, nS]
    with_reducible refine wv (.bool true) ?_
    try simp only [nP, nN, nA, n0, nS]
    with_reducible refine wk ?_
    try simp only [nP, nN, nA, n0, nS]
    with_reducible refine wk ?_
    try simp only [nP, nN, nA, n0, nS]
    with_reducible refine wk ?_
    try simp only [nP, nN, nA, n0, nS]
    with_reducible refine wk ?_
    try simp only [nP, nN, nA, n0, nS]
    with_reducible refine wk ?_
    try simp only [nP, nN, nA, n0, nS]
    with_reducible refine wv (.bool true) ?_
    try simp only [nP, nN, nA, n0, nS]
    with_reducible refine wv (.bool true) ?_
    try simp only [nP, nN, nA, n0, nS]
    with_reducible refine wk ?_
    try simp only [nP, nN, nA, n0, nS]
    with_reducible refine wk ?_
    try simp only [nP, nN, nA, n0, nS]
    with_reducible refine wk ?_
    try simp only [nP, nN, nA, n0, nS]
    with_reducible refine wk ?_
    try simp only [nP, nN, nA, n0, nS]
    with_reducible refine wk ?_
    try simp only [nP, nN, nA, n0, nS]
    with_reducible refine wv (.bool true) ?_
    try simp only [nP, nN, nA, n0, nS]
    refine wpList_nil ?_
    exact hjK9 _ _ _ _ _ _ _ _ _ _ _ _ _ _ _ _ _ _ _ _ _ _ _ _ _ _ _ _ _ _ _ _ _ _ _ _ _ _ _ true _ Zb2 Zb3 ee (by first | (simp only [hb7, hb19, hb20, hb26, hb27]; done) | (simp only [hb7, hb19, hb20, hb26, hb27]; rfl) | simp [hb7, hb19, hb20, hb26, hb27])
   with_reducible refine wb (.bool false) (.string a.ky) (.string b.ky) 9 (run_sneB hb27) ?_
   try simp only [nP, nN, nA, n0, nS]
   with_reducible refine wv (.bool false) ?_
   try simp only [nP, nN, nA, n0, nS]
   with_reducible refine wv (.bool false) ?_
   try simp only [nP, nN, nA, n0, nS]
   with_reducible refine wv (.pointer (some ⟨g2, 28, none⟩)) ?_
   try simp only [nP, nN, nA, n0, nS]
   with_reducible refine wl (.int .u64 ((a.ve : Int))) ⟨g2, 28, none⟩ (rowCell Zb2 (28) rfl) Tryd.underlying31 ?_
   try simp only [nP, nN, nA, n0, nS]
   with_reducible refine wv (.pointer (some ⟨g3, 28, none⟩)) ?_
   try simp only [nP, nN, nA, n0, nS]
   with_reducible refine wl (.int .u64 ((b.ve : Int))) ⟨g3, 28, none⟩ (rowCell Zb3 (28) rfl) Tryd.underlying31 ?_
   try simp only [nP, nN, nA, n0, nS]
   obtain ⟨b28, hb28⟩ : ∃ d_ : Bool, (decide ((a.ve : Int) = (b.ve : Int))) = d_ := ⟨_, rfl⟩
   cases b28
   ·have pb28 : ¬ ((a.ve : Int) = (b.ve : Int)) := of_decide_eq_false hb28
    with_reducible refine wb (.bool true) (.int .u64 ((a.ve : Int))) (.int .u64 ((b.ve : Int))) 31 (run_neqI hb28) ?_
    try simp only [nP, nN, nA, n0, nS]
    with_reducible refine wv (.bool true) ?_
    try simp only [nP, nN, nA, n0, nS]
    with_reducible refine wv (.bool true) ?_
    try simp only [nP, nN, nA, n0, nS]
    with_reducible refine wk ?_
    try simp only [nP, nN, nA, n0, nS]
    with_reducible refine wk ?_
    try simp only [nP, nN, nA, n0, nS]
    with_reducible refine wk ?_
    try simp only [nP, nN, nA, n0, nS]
    with_reducible refine wk ?_
    try simp only [nP, nN, nA, n0, nS]
    with_reducible refine wk ?_
    try simp only [nP, nN, nA, n0, nS]
    with_reducible refine wv (.bool true) ?_
    try simp only [nP, nN, nA, n0, nS]
    with_reducible refine wv (.bool true) ?_
    try simp only [nP, nN, nA, n0, nS]
    with_reducible refine wk ?_
    try simp only [nP, nN, nA, n0, nS]
    with_reducible refine wk ?_
    try simp only [nP, nN, nA, n0, nS]
    with_reducible refine wk ?_
    try simp only [nP, nN, nA, n0, nS]
    with_reducible refine wk ?_
    try simp only [nP, nN, nA, n0, nS]
    with_reducible refine wk ?_
    try simp only [nP, nN, nA, n0, nS]
    with_reducible refine wv (.bool true) ?_
    try simp only [nP, nN, nA, n0, nS]
    refine wpList_nil ?_
    exact hjK9 _ _ _ _ _ _ _ _ _ _ _ _ _ _ _ _ _ _ _ _ _ _ _ _ _ _ _ _ _ _ _ _ _ _ _ _ _ _ _ true _ Zb2 Zb3 ee (by first | (simp only [hb7, hb19, hb20, hb26, hb27, hb28]; done) | (simp only [hb7, hb19, hb20, hb26, hb27, hb28]; rfl) | simp [hb7, hb19, hb20, hb26, hb27, hb28])
   have pb28 : (a.ve : Int) = (b.ve : Int) := of_decide_eq_true hb28
   with_reducible refine wb (.bool false) (.int .u64 ((a.ve : Int))) (.int .u64 ((b.ve : Int))) 31 (run_neqI hb28) ?_
   try simp only [nP, nN, nA, n0, nS]
   with_reducible refine wv (.bool false) ?_
   try simp only [nP, nN, nA, n0, nS]
   with_reducible refine wv (.bool false) ?_
   try simp only [nP, nN, nA, n0, nS]
   with_reducible refine wv (.pointer (some ⟨g2, 29, none⟩)) ?_
   try simp only [nP, nN, nA, n0, nS]
   with_reducible refine wg (g2) (29) ([.int .i64 a.vk, .int .u64 (a.vb : Int), .string a.vt]) (rowMid Zb2 (29) (partOf 29 (by kernel_rfl))) Tryd.underlying35 ?_
   try simp only [nP, nN, nA, n0, nS]
   with_reducible refine wv (.pointer (some ⟨g3, 29, none⟩)) ?_
   try simp only [nP, nN, nA, n0, nS]
   with_reducible refine wg (g3) (29) ([.int .i64 b.vk, .int .u64 (b.vb : Int), .string b.vt]) (rowMid Zb3 (29) (partOf 29 (by kernel_rfl))) Tryd.underlying35 ?_
   try simp only [nP, nN, nA, n0, nS]
   obtain ⟨b29, hb29⟩ : ∃ d_ : Bool, (decide (a.vk = b.vk ∧ a.vb = b.vb ∧ a.vt.data.toList = b.vt.data.toList)) = d_ := ⟨_, rfl⟩
   cases b29
   ·with_reducible refine wb (.bool true) (.agg ([.int .i64 a.vk, .int .u64 (a.vb : Int), .string a.vt]).toArray) (.agg ([.int .i64 b.vk, .int .u64 (b.vb : Int), .string b.vt]).toArray) 35 (run_neOfEq (by have := run_eqvD a.vk a.vb a.vt b.vk b.vb b.vt zc5; rw [hb29] at this; exact this)) ?_
    try simp only [nP, nN, nA, n0, nS]
    with_reducible refine wv (.bool true) ?_
    try simp only [nP, nN, nA, n0, nS]
    with_reducible refine wv (.bool true) ?_
    try simp only [nP, nN, nA, n0, nS]
    with_reducible refine wk ?_
    try simp only [nP, nN, nA, n0, nS]
    with_reducible refine wk ?_
    try simp only [nP, nN, nA, n0, nS]
    with_reducible refine wk ?_
    try simp only [nP, nN, nA, n0, nS]
    with_reducible refine wk ?_
    try simp only [nP, nN, nA, n0, nS]
    with_reducible refine wk ?_
    try simp only [nP, nN, nA, n0, nS]
    with_reducible refine wv (.bool true) ?_
    try simp only [nP, nN, nA, n0, nS]
    refine wpList_nil ?_
    exact hjK9 _ _ _ _ _ _ _ _ _ _ _ _ _ _ _ _ _ _ _ _ _ _ _ _ _ _ _ _ _ _ _ _ _ _ _ _ _ _ _ true _ Zb2 Zb3 ee (by first | (simp only [hb7, hb19, hb20, hb26, hb27, hb28, hb29]; done) | (simp only [hb7, hb19, hb20, hb26, hb27, hb28, hb29]; rfl) | simp [hb7, hb19, hb20, hb26, hb27, hb28, hb29])
   with_reducible refine wb (.bool false) (.agg ([.int .i64 a.vk, .int .u64 (a.vb : Int), .string a.vt]).toArray) (.agg ([.int .i64 b.vk, .int .u64 (b.vb : Int), .string b.vt]).toArray) 35 (run_neOfEq (by have := run_eqvD a.vk a.vb a.vt b.vk b.vb b.vt zc5; rw [hb29] at this; exact this)) ?_
   try simp only [nP, nN, nA, n0, nS]
   with_reducible refine wv (.bool false) ?_
   try simp only [nP, nN, nA, n0, nS]
   with_reducible refine wv (.bool false) ?_
   try simp only [nP, nN, nA, n0, nS]
   with_reducible refine wv (.pointer (some ⟨g2, 32, none⟩)) ?_
   try simp only [nP, nN, nA, n0, nS]
   with_reducible refine wl (.int .i64 a.er) ⟨g2, 32, none⟩ (rowCell Zb2 (32) rfl) Tryd.underlying36 ?_
   try simp only [nP, nN, nA, n0, nS]
   with_reducible refine wv (.pointer (some ⟨g3, 32, none⟩)) ?_
   try simp only [nP, nN, nA, n0, nS]
   with_reducible refine wl (.int .i64 b.er) ⟨g3, 32, none⟩ (rowCell Zb3 (32) rfl) Tryd.underlying36 ?_
   try simp only [nP, nN, nA, n0, nS]
   obtain ⟨b30, hb30⟩ : ∃ d_ : Bool, (decide (a.er = b.er)) = d_ := ⟨_, rfl⟩
   cases b30
   ·have pb30 : ¬ (a.er = b.er) := of_decide_eq_false hb30
    with_reducible refine wb (.bool true) (.int .i64 a.er) (.int .i64 b.er) 36 (run_neqI hb30) ?_
    try simp only [nP, nN, nA, n0, nS]
    with_reducible refine wv (.bool true) ?_
    try simp only [nP, nN, nA, n0, nS]
    refine wpList_nil ?_
    exact hjK9 _ _ _ _ _ _ _ _ _ _ _ _ _ _ _ _ _ _ _ _ _ _ _ _ _ _ _ _ _ _ _ _ _ _ _ _ _ _ _ true _ Zb2 Zb3 ee (by first | (simp only [hb7, hb19, hb20, hb26, hb27, hb28, hb29, hb30]; done) | (simp only [hb7, hb19, hb20, hb26, hb27, hb28, hb29, hb30]; rfl) | simp [hb7, hb19, hb20, hb26, hb27, hb28, hb29, hb30])
   have pb30 : a.er = b.er := of_decide_eq_true hb30
   with_reducible refine wb (.bool false) (.int .i64 a.er) (.int .i64 b.er) 36 (run_neqI hb30) ?_
   try simp only [nP, nN, nA, n0, nS]
   with_reducible refine wv (.bool false) ?_
   try simp only [nP, nN, nA, n0, nS]
   refine wpList_nil ?_
   exact hjK9 _ _ _ _ _ _ _ _ _ _ _ _ _ _ _ _ _ _ _ _ _ _ _ _ _ _ _ _ _ _ _ _ _ _ _ _ _ _ _ false _ Zb2 Zb3 ee (by first | (simp only [hb7, hb19, hb20, hb26, hb27, hb28, hb29, hb30]; done) | (simp only [hb7, hb19, hb20, hb26, hb27, hb28, hb29, hb30]; rfl) | simp [hb7, hb19, hb20, hb26, hb27, hb28, hb29, hb30])
  refine wp_cond_true (by kernel_rfl) ?_
  refine wp_seq_k fun K31 hK31 => ?_
  refine wp_region_lit ?_
  with_reducible refine wv (.bool false) ?_
  try simp only [nP, nN, nA, n0, nS]
  refine wpList_nil ?_
  refine hK31 _ _ ?_
  refine wp_ret ?_
  refine then_ret ?_
  exact bodyPost_ret (v := .bool false) (by kernel_rfl) rfl ⟨congrArg (fun b => Ending.returned (.bool b)) (show false = T.Ms.rsame a b from by unfold T.Ms.rsame; first | (simp only [hb7]; done) | (simp only [hb7]; rfl) | simp [hb7]), ee⟩
 refine wp_region_lit ?_
 with_reducible refine wv (.pointer (some ⟨g2, 0, none⟩)) ?_
 try simp only [nP, nN, nA, n0, nS]
 with_reducible refine wl (.int .i64 a.kd) ⟨g2, 0, none⟩ (rowCell Zb2 (0) rfl) Tryd.underlying3 ?_
 try simp only [nP, nN, nA, n0, nS]
 with_reducible refine wv (.pointer (some ⟨g3, 0, none⟩)) ?_
 try simp only [nP, nN, nA, n0, nS]
 with_reducible refine wl (.int .i64 b.kd) ⟨g3, 0, none⟩ (rowCell Zb3 (0) rfl) Tryd.underlying3 ?_
 try simp only [nP, nN, nA, n0, nS]
 obtain ⟨b32, hb32⟩ : ∃ d_ : Bool, (decide (a.kd = b.kd)) = d_ := ⟨_, rfl⟩
 cases b32
 ·have pb32 : ¬ (a.kd = b.kd) := of_decide_eq_false hb32
  with_reducible refine wb (.bool true) (.int .i64 a.kd) (.int .i64 b.kd) 3 (run_neqI hb32) ?_
  try simp only [nP, nN, nA, n0, nS]
  with_reducible refine wv (.bool true) ?_
  try simp only [nP, nN, nA, n0, nS]
  with_reducible refine wk ?_
  try simp only [nP, nN, nA, n0, nS]
  with_reducible refine wk ?_
  try simp only [nP, nN, nA, n0, nS]
  with_reducible refine wk ?_
  try simp only [nP, nN, nA, n0, nS]
  with_reducible refine wk ?_
  try simp only [nP, nN, nA, n0, nS]
  with_reducible refine wk ?_
  try simp only [nP, nN, nA, n0, nS]
  with_reducible refine wv (.bool true) ?_
  try simp only [nP, nN, nA, n0, nS]
  with_reducible refine wv (.bool true) ?_
  try simp only [nP, nN, nA, n0, nS]
  with_reducible refine wk ?_
  try simp only [nP, nN, nA, n0, nS]
  with_reducible refine wk ?_
  try simp only [nP, nN, nA, n0, nS]
  with_reducible refine wk ?_
  try simp only [nP, nN, nA, n0, nS]
  with_reducible refine wk ?_
  try simp only [nP, nN, nA, n0, nS]
  with_reducible refine wk ?_
  try simp only [nP, nN, nA, n0, nS]
  with_reducible refine wv (.bool true) ?_
  try simp only [nP, nN, nA, n0, nS]
  with_reducible refine wv (.bool true) ?_
  try simp only [nP, nN, nA, n0, nS]
  with_reducible refine wk ?_
  try simp only [nP, nN, nA, n0, nS]
  with_reducible refine wk ?_
  try simp only [nP, nN, nA, n0, nS]
  with_reducible refine wk ?_
  try simp only [nP, nN, nA, n0, nS]
  with_reducible refine wk ?_
  try simp only [nP, nN, nA, n0, nS]
  with_reducible refine wk ?_
  try simp only [nP, nN, nA, n0, nS]
  with_reducible refine wv (.bool true) ?_
  try simp only [nP, nN, nA, n0, nS]
  with_reducible refine wv (.bool true) ?_
  try simp only [nP, nN, nA, n0, nS]
  with_reducible refine wk ?_
  try simp only [nP, nN, nA, n0, nS]
  with_reducible refine wk ?_
  try simp only [nP, nN, nA, n0, nS]
  with_reducible refine wk ?_
  try simp only [nP, nN, nA, n0, nS]
  with_reducible refine wk ?_
  try simp only [nP, nN, nA, n0, nS]
  with_reducible refine wk ?_
  try simp only [nP, nN, nA, n0, nS]
  with_reducible refine wv (.bool true) ?_
  try simp only [nP, nN, nA, n0, nS]
  with_reducible refine wv (.bool true) ?_
  try simp only [nP, nN, nA, n0, nS]
  with_reducible refine wk ?_
  try simp only [nP, nN, nA, n0, nS]
  with_reducible refine wk ?_
  try simp only [nP, nN, nA, n0, nS]
  with_reducible refine wk ?_
  try simp only [nP, nN, nA, n0, nS]
  with_reducible refine wk ?_
  try simp only [nP, nN, nA, n0, nS]
  with_reducible refine wk ?_
  try simp only [nP, nN, nA, n0, nS]
  with_reducible refine wv (.bool true) ?_
  try simp only [nP, nN, nA, n0, nS]
  with_reducible refine wv (.bool true) ?_
  try simp only [nP, nN, nA, n0, nS]
  with_reducible refine wk ?_
  try simp only [nP, nN, nA, n0, nS]
  with_reducible refine wk ?_
  try simp only [nP, nN, nA, n0, nS]
  with_reducible refine wk ?_
  try simp only [nP, nN, nA, n0, nS]
  with_reducible refine wk ?_
  try simp only [nP, nN, nA, n0, nS]
  with_reducible refine wk ?_
  try simp only [nP, nN, nA, n0, nS]
  with_reducible refine wv (.bool true) ?_
  try simp only [nP, nN, nA, n0, nS]
  with_reducible refine wv (.bool true) ?_
  try simp only [nP, nN, nA, n0, nS]
  with_reducible refine wk ?_
  try simp only [nP, nN, nA, n0, nS]
  with_reducible refine wk ?_
  try simp only [nP, nN, nA, n0, nS]
  with_reducible refine wk ?_
  try simp only [nP, nN, nA, n0, nS]
  with_reducible refine wk ?_
  try simp only [nP, nN, nA, n0, nS]
  with_reducible refine wk ?_
  try simp only [nP, nN, nA, n0, nS]
  with_reducible refine wv (.bool true) ?_
  try simp only [nP, nN, nA, n0, nS]
  refine wpList_nil ?_
  exact hjK5 _ _ _ _ _ _ _ _ _ _ _ _ _ _ _ _ _ _ _ _ _ _ _ _ _ _ _ _ _ _ _ _ _ _ _ _ _ _ _ _ _ _ _ _ _ _ _ _ _ _ _ _ _ true _ Zb2 Zb3 ee (by first | (simp only [hb32]; done) | (simp only [hb32]; rfl) | simp [hb32])
 have pb32 : a.kd = b.kd := of_decide_eq_true hb32
 with_reducible refine wb (.bool false) (.int .i64 a.kd) (.int .i64 b.kd) 3 (run_neqI hb32) ?_
 try simp only [nP, nN, nA, n0, nS]
 with_reducible refine wv (.bool false) ?_
 try simp only [nP, nN, nA, n0, nS]
 with_reducible refine wv (.pointer (some ⟨g2, 1, none⟩)) ?_
 try simp only [nP, nN, nA, n0, nS]
 with_reducible refine wg (g2) (1) ([.int .u32 (a.br : Int), .int .i64 a.bn]) (rowMid Zb2 (1) (partOf 1 (by kernel_rfl))) Tryd.underlying44 ?_
 try simp only [nP, nN, nA, n0, nS]
 with_reducible refine wv (.pointer (some ⟨g3, 1, none⟩)) ?_
 try simp only [nP, nN, nA, n0, nS]
 with_reducible refine wg (g3) (1) ([.int .u32 (b.br : Int), .int .i64 b.bn]) (rowMid Zb3 (1) (partOf 1 (by kernel_rfl))) Tryd.underlying44 ?_
 try simp only [nP, nN, nA, n0, nS]
 obtain ⟨b33, hb33⟩ : ∃ d_ : Bool, (decide (a.br = b.br ∧ a.bn = b.bn)) = d_ := ⟨_, rfl⟩
 cases b33
 ·with_reducible refine wb (.bool true) (.agg ([.int .u32 (a.br : Int), .int .i64 a.bn]).toArray) (.agg ([.int .u32 (b.br : Int), .int .i64 b.bn]).toArray) 44 (run_neOfEq (by have := B.run_eqRBal a.br a.bn b.br b.bn z2; rw [hb33] at this; exact this)) ?_
  try simp only [nP, nN, nA, n0, nS]
  with_reducible refine wv (.bool true) ?_
  try simp only [nP, nN, nA, n0, nS]
  with_reducible refine wv (.bool true) ?_
  try simp only [nP, nN, nA, n0, nS]
  with_reducible refine wk ?_
  try simp only [nP, nN, nA, n0, nS]
  with_reducible refine wk ?_
  try simp only [nP, nN, nA, n0, nS]
  with_reducible refine wk ?_
  try simp only [nP, nN, nA, n0, nS]
  with_reducible refine wk ?_
  try simp only [nP, nN, nA, n0, nS]
  with_reducible refine wk ?_
  try simp only [nP, nN, nA, n0, nS]
  with_reducible refine wv (.bool true) ?_
  try simp only [nP, nN, nA, n0, nS]
  with_reducible refine wv (.bool true) ?_
  try simp only [nP, nN, nA, n0, nS]
  with_reducible refine wk ?_
  try simp only [nP, nN, nA, n0, nS]
  with_reducible refine wk ?_
  try simp only [nP, nN, nA, n0, nS]
  with_reducible refine wk ?_
  try simp only [nP, nN, nA, n0, nS]
  with_reducible refine wk ?_
  try simp only [nP, nN, nA, n0, nS]
  with_reducible refine wk ?_
  try simp only [nP, nN, nA, n0, nS]
  with_reducible refine wv (.bool true) ?_
  try simp only [nP, nN, nA, n0, nS]
  with_reducible refine wv (.bool true) ?_
  try simp only [nP, nN, nA, n0, nS]
  with_reducible refine wk ?_
  try simp only [nP, nN, nA, n0, nS]
  with_reducible refine wk ?_
  try simp only [nP, nN, nA, n0, nS]
  with_reducible refine wk ?_
  try simp only [nP, nN, nA, n0, nS]
  with_reducible refine wk ?_
  try simp only [nP, nN, nA, n0, nS]
  with_reducible refine wk ?_
  try simp only [nP, nN, nA, n0, nS]
  with_reducible refine wv (.bool true) ?_
  try simp only [nP, nN, nA, n0, nS]
  with_reducible refine wv (.bool true) ?_
  try simp only [nP, nN, nA, n0, nS]
  with_reducible refine wk ?_
  try simp only [nP, nN, nA, n0, nS]
  with_reducible refine wk ?_
  try simp only [nP, nN, nA, n0, nS]
  with_reducible refine wk ?_
  try simp only [nP, nN, nA, n0, nS]
  with_reducible refine wk ?_
  try simp only [nP, nN, nA, n0, nS]
  with_reducible refine wk ?_
  try simp only [nP, nN, nA, n0, nS]
  with_reducible refine wv (.bool true) ?_
  try simp only [nP, nN, nA, n0, nS]
  with_reducible refine wv (.bool true) ?_
  try simp only [nP, nN, nA, n0, nS]
  with_reducible refine wk ?_
  try simp only [nP, nN, nA, n0, nS]
  with_reducible refine wk ?_
  try simp only [nP, nN, nA, n0, nS]
  with_reducible refine wk ?_
  try simp only [nP, nN, nA, n0, nS]
  with_reducible refine wk ?_
  try simp only [nP, nN, nA, n0, nS]
  with_reducible refine wk ?_
  try simp only [nP, nN, nA, n0, nS]
  with_reducible refine wv (.bool true) ?_
  try simp only [nP, nN, nA, n0, nS]
  with_reducible refine wv (.bool true) ?_
  try simp only [nP, nN, nA, n0, nS]
  with_reducible refine wk ?_
  try simp only [nP, nN, nA, n0, nS]
  with_reducible refine wk ?_
  try simp only [nP, nN, nA, n0, nS]
  with_reducible refine wk ?_
  try simp only [nP, nN, nA, n0, nS]
  with_reducible refine wk ?_
  try simp only [nP, nN, nA, n0, nS]
  with_reducible refine wk ?_
  try simp only [nP, nN, nA, n0, nS]
  with_reducible refine wv (.bool true) ?_
  try simp only [nP, nN, nA, n0, nS]
  refine wpList_nil ?_
  exact hjK5 _ _ _ _ _ _ _ _ _ _ _ _ _ _ _ _ _ _ _ _ _ _ _ _ _ _ _ _ _ _ _ _ _ _ _ _ _ _ _ _ _ _ _ _ _ _ _ _ _ _ _ _ _ true _ Zb2 Zb3 ee (by first | (simp only [hb32, hb33]; done) | (simp only [hb32, hb33]; rfl) | simp [hb32, hb33])
 with_reducible refine wb (.bool false) (.agg ([.int .u32 (a.br : Int), .int .i64 a.bn]).toArray) (.agg ([.int .u32 (b.br : Int), .int .i64 b.bn]).toArray) 44 (run_neOfEq (by have := B.run_eqRBal a.br a.bn b.br b.bn z2; rw [hb33] at this; exact this)) ?_
 try simp only [nP, nN, nA, n0, nS]
 with_reducible refine wv (.bool false) ?_
 try simp only [nP, nN, nA, n0, nS]
 with_reducible refine wv (.bool false) ?_
 try simp only [nP, nN, nA, n0, nS]
 with_reducible refine wv (.pointer (some ⟨g2, 3, none⟩)) ?_
 try simp only [nP, nN, nA, n0, nS]
 with_reducible refine wl (.int .i64 a.sl) ⟨g2, 3, none⟩ (rowCell Zb2 (3) rfl) Tryd.underlying3 ?_
 try simp only [nP, nN, nA, n0, nS]
 with_reducible refine wv (.pointer (some ⟨g3, 3, none⟩)) ?_
 try simp only [nP, nN, nA, n0, nS]
 with_reducible refine wl (.int .i64 b.sl) ⟨g3, 3, none⟩ (rowCell Zb3 (3) rfl) Tryd.underlying3 ?_
 try simp only [nP, nN, nA, n0, nS]
 obtain ⟨b34, hb34⟩ : ∃ d_ : Bool, (decide (a.sl = b.sl)) = d_ := ⟨_, rfl⟩
 cases b34
 ·have pb34 : ¬ (a.sl = b.sl) := of_decide_eq_false hb34
  with_reducible refine wb (.bool true) (.int .i64 a.sl) (.int .i64 b.sl) 3 (run_neqI hb34) ?_
  try simp only [nP, nN, nA, n0, nS]
  with_reducible refine wv (.bool true) ?_
  try simp only [nP, nN, nA, n0, nS]
  with_reducible refine wv (.bool true) ?_
  try simp only [nP, nN, nA, n0, nS]
  with_reducible refine wk ?_
  try simp only [nP, nN, nA, n0, nS]
  with_reducible refine wk ?_
  try simp only [nP, nN, nA, n0, nS]
  with_reducible refine wk ?_
  try simp only [nP, nN, nA, n0, nS]
  with_reducible refine wk ?_
  try simp only [nP, nN, nA, n0, nS]
  with_reducible refine wk ?_
  try simp only [nP, nN, nA, n0, nS]
  with_reducible refine wv (.bool true) ?_
  try simp only [nP, nN, nA, n0, nS]
  with_reducible refine wv (.bool true) ?_
  try simp only [nP, nN, nA, n0, nS]
  with_reducible refine wk ?_
  try simp only [nP, nN, nA, n0, nS]
  with_reducible refine wk ?_
  try simp only [nP, nN, nA, n0, nS]
  with_reducible refine wk ?_
  try simp only [nP, nN, nA, n0, nS]
  with_reducible refine wk ?_
  try simp only [nP, nN, nA, n0, nS]
  with_reducible refine wk ?_
  try simp only [nP, nN, nA, n0, nS]
  with_reducible refine wv (.bool true) ?_
  try simp only [nP, nN, nA, n0, nS]
  with_reducible refine wv (.bool true) ?_
  try simp only [nP, nN, nA, n0, nS]
  with_reducible refine wk ?_
  try simp only [nP, nN, nA, n0, nS]
  with_reducible refine wk ?_
  try simp only [nP, nN, nA, n0, nS]
  with_reducible refine wk ?_
  try simp only [nP, nN, nA, n0, nS]
  with_reducible refine wk ?_
  try simp only [nP, nN, nA, n0, nS]
  with_reducible refine wk ?_
  try simp only [nP, nN, nA, n0, nS]
  with_reducible refine wv (.bool true) ?_
  try simp only [nP, nN, nA, n0, nS]
  with_reducible refine wv (.bool true) ?_
  try simp only [nP, nN, nA, n0, nS]
  with_reducible refine wk ?_
  try simp only [nP, nN, nA, n0, nS]
  with_reducible refine wk ?_
  try simp only [nP, nN, nA, n0, nS]
  with_reducible refine wk ?_
  try simp only [nP, nN, nA, n0, nS]
  with_reducible refine wk ?_
  try simp only [nP, nN, nA, n0, nS]
  with_reducible refine wk ?_
  try simp only [nP, nN, nA, n0, nS]
  with_reducible refine wv (.bool true) ?_
  try simp only [nP, nN, nA, n0, nS]
  with_reducible refine wv (.bool true) ?_
  try simp only [nP, nN, nA, n0, nS]
  with_reducible refine wk ?_
  try simp only [nP, nN, nA, n0, nS]
  with_reducible refine wk ?_
  try simp only [nP, nN, nA, n0, nS]
  with_reducible refine wk ?_
  try simp only [nP, nN, nA, n0, nS]
  with_reducible refine wk ?_
  try simp only [nP, nN, nA, n0, nS]
  with_reducible refine wk ?_
  try simp only [nP, nN, nA, n0, nS]
  with_reducible refine wv (.bool true) ?_
  try simp only [nP, nN, nA, n0, nS]
  refine wpList_nil ?_
  exact hjK5 _ _ _ _ _ _ _ _ _ _ _ _ _ _ _ _ _ _ _ _ _ _ _ _ _ _ _ _ _ _ _ _ _ _ _ _ _ _ _ _ _ _ _ _ _ _ _ _ _ _ _ _ _ true _ Zb2 Zb3 ee (by first | (simp only [hb32, hb33, hb34]; done) | (simp only [hb32, hb33, hb34]; rfl) | simp [hb32, hb33, hb34])
 have pb34 : a.sl = b.sl := of_decide_eq_true hb34
 with_reducible refine wb (.bool false) (.int .i64 a.sl) (.int .i64 b.sl) 3 (run_neqI hb34) ?_
 try simp only [nP, nN, nA, n0, nS]
 with_reducible refine wv (.bool false) ?_
 try simp only [nP, nN, nA, n0, nS]
 with_reducible refine wv (.bool false) ?_
 try simp only [nP, nN, nA, n0, nS]
 with_reducible refine wv (.pointer (some ⟨g2, 4, none⟩)) ?_
 try simp only [nP, nN, nA, n0, nS]
 with_reducible refine wl (.bool a.ha) ⟨g2, 4, none⟩ (rowCell Zb2 (4) rfl) Tryd.underlying4 ?_
 generalize hb35 : a.ha = b35
 try simp only [nP, nN, nA, n0, nS]
 with_reducible refine wv (.pointer (some ⟨g3, 4, none⟩)) ?_
 try simp only [nP, nN, nA, n0, nS]
 with_reducible refine wl (.bool b.ha) ⟨g3, 4, none⟩ (rowCell Zb3 (4) rfl) Tryd.underlying4 ?_
 generalize hb36 : b.ha = b36
 try simp only [nP, nN, nA, n0, nS]
 cases b35
 ·cases b36
  ·with_reducible refine wv (.bool false) ?_
   try simp only [nP, nN, nA, n0, nS]
   with_reducible refine wv (.bool false) ?_
   try simp only [nP, nN, nA, n0, nS]
   with_reducible refine wv (.bool false) ?_
   try simp only [nP, nN, nA, n0, nS]
   with_reducible refine wv (.pointer (some ⟨g2, 5, none⟩)) ?_
   try simp only [nP, nN, nA, n0, nS]
   with_reducible refine wg (g2) (5) ([.int .u32 (a.vr : Int), .int .i64 a.vn]) (rowMid Zb2 (5) (partOf 5 (by kernel_rfl))) Tryd.underlying44 ?_
   try simp only [nP, nN, nA, n0, nS]
   with_reducible refine wv (.pointer (some ⟨g3, 5, none⟩)) ?_
   try simp only [nP, nN, nA, n0, nS]
   with_reducible refine wg (g3) (5) ([.int .u32 (b.vr : Int), .int .i64 b.vn]) (rowMid Zb3 (5) (partOf 5 (by kernel_rfl))) Tryd.underlying44 ?_
   try simp only [nP, nN, nA, n0, nS]
   obtain ⟨b37, hb37⟩ : ∃ d_ : Bool, (decide (a.vr = b.vr ∧ a.vn = b.vn)) = d_ := ⟨_, rfl⟩
   cases b37
   ·with_reducible refine wb (.bool true) (.agg ([.int .u32 (a.vr : Int), .int .i64 a.vn]).toArray) (.agg ([.int .u32 (b.vr : Int), .int .i64 b.vn]).toArray) 44 (run_neOfEq (by have := B.run_eqRBal a.vr a.vn b.vr b.vn z2; rw [hb37] at this; exact this)) ?_
    try simp only [nP, nN, nA, n0, nS]
    with_reducible refine wv (.bool true) ?_
    try simp only [nP, nN, nA, n0, nS]
    with_reducible refine wv (.bool true) ?_
    try simp only [nP, nN, nA, n0, nS]
    with_reducible refine wk ?_
    try simp only [nP, nN, nA, n0, nS]
    with_reducible refine wk ?_
    try simp only [nP, nN, nA, n0, nS]
    with_reducible refine wk ?_
    try simp only [nP, nN, nA, n0, nS]
    with_reducible refine wk ?_
    try simp only [nP, nN, nA, n0, nS]
    with_reducible refine wk ?_
    try simp only [nP, nN, nA, n0, nS]
    with_reducible refine wv (.bool true) ?_
    try simp only [nP, nN, nA, n0, nS]
    with_reducible refine wv (.bool true) ?_
    try simp only [nP, nN, nA, n0, nS]
    with_reducible refine wk ?_
    try simp only [nP, nN, nA, n0, nS]
    with_reducible refine wk ?_
    try simp only [nP, nN, nA, n0, nS]
    with_reducible refine wk ?_
    try simp only [nP, nN, nA, n0, nS]
    with_reducible refine wk ?_
    try simp only [nP, nN, nA, n0, nS]
    with_reducible refine wk ?_
    try simp only [nP, nN, nA, n0, nS]
    with_reducible refine wv (.bool true) ?_
    try simp only [nP, nN, nA, n0, nS]
    with_reducible refine wv (.bool true) ?_
    try simp only [nP, nN, nA, n0, nS]
    with_reducible refine wk ?_
    try simp only [nP, nN, nA, n0, nS]
    with_reducible refine wk ?_
    try simp only [nP, nN, nA, n0, nS]
    with_reducible refine wk ?_
    try simp only [nP, nN, nA, n0, nS]
    with_reducible refine wk ?_
    try simp only [nP, nN, nA, n0, nS]
    with_reducible refine wk ?_
    try simp only [nP, nN, nA, n0, nS]
    with_reducible refine wv (.bool true) ?_
    try simp only [nP, nN, nA, n0, nS]
    refine wpList_nil ?_
    exact hjK5 _ _ _ _ _ _ _ _ _ _ _ _ _ _ _ _ _ _ _ _ _ _ _ _ _ _ _ _ _ _ _ _ _ _ _ _ _ _ _ _ _ _ _ _ _ _ _ _ _ _ _ _ _ true _ Zb2 Zb3 ee (by first | (simp only [hb32, hb33, hb34, hb35, hb36, hb37]; done) | (simp only [hb32, hb33, hb34, hb35, hb36, hb37]; rfl) | simp [hb32, hb33, hb34, hb35, hb36, hb37])
   with_reducible refine wb (.bool false) (.agg ([.int .u32 (a.vr : Int), .int .i64 a.vn]).toArray) (.agg ([.int .u32 (b.vr : Int), .int .i64 b.vn]).toArray) 44 (run_neOfEq (by have := B.run_eqRBal a.vr a.vn b.vr b.vn z2; rw [hb37] at this; exact this)) ?_
   try simp only [nP, nN, nA, n0, nS]
   with_reducible refine wv (.bool false) ?_
   try simp only [nP, nN, nA, n0, nS]
   with_reducible refine wv (.bool false) ?_
   try simp only [nP, nN, nA, n0, nS]
   with_reducible refine wv (.pointer (some ⟨g2, 21, none⟩)) ?_
   try simp only [nP, nN, nA, n0, nS]
   with_reducible refine wg (g2) (21) ([.int .i64 a.ii, .int .i64 a.ij]) (rowMid Zb2 (21) (partOf 21 (by kernel_rfl))) Tryd.underlying26 ?_
   try simp only [nP, nN, nA, n0, nS]
   with_reducible refine wv (.pointer (some ⟨g3, 21, none⟩)) ?_
   try simp only [nP, nN, nA, n0, nS]
   with_reducible refine wg (g3) (21) ([.int .i64 b.ii, .int .i64 b.ij]) (rowMid Zb3 (21) (partOf 21 (by kernel_rfl))) Tryd.underlying26 ?_
   try simp only [nP, nN, nA, n0, nS]
   obtain ⟨b38, hb38⟩ : ∃ d_ : Bool, (decide (a.ii = b.ii ∧ a.ij = b.ij)) = d_ := ⟨_, rfl⟩
   cases b38
   ·with_reducible refine wb (.bool true) (.agg ([.int .i64 a.ii, .int .i64 a.ij]).toArray) (.agg ([.int .i64 b.ii, .int .i64 b.ij]).toArray) 26 (run_neOfEq (by have := run_eqId a.ii a.ij b.ii b.ij z2; rw [hb38] at this; exact this)) ?_
    try simp only [nP, nN, nA, n0, nS]
    with_reducible refine wv (.bool true) ?_
    try simp only [nP, nN, nA, n0, nS]
    with_reducible refine wv (.bool true) ?_
    try simp only [nP, nN, nA, n0, nS]
    with_reducible refine wk ?_
    try simp only [nP, nN, nA, n0, nS]
    with_reducible refine wk ?_
    try simp only [nP, nN, nA, n0, nS]
    with_reducible refine wk ?_
    try simp only [nP, nN, nA, n0, nS]
    with_reducible refine wk ?_
    try simp only [nP, nN, nA, n0, nS]
    with_reducible refine wk ?_
    try simp only [nP, nN, nA, n0, nS]
    with_reducible refine wv (.bool true) ?_
    try simp only [nP, nN, nA, n0, nS]
    with_reducible refine wv (.bool true) ?_
    try simp only [nP, nN, nA, n0, nS]
    with_reducible refine wk ?_
    try simp only [nP, nN, nA, n0, nS]
    with_reducible refine wk ?_
    try simp only [nP, nN, nA, n0, nS]
    with_reducible refine wk ?_
    try simp only [nP, nN, nA, n0, nS]
    with_reducible refine wk ?_
    try simp only [nP, nN, nA, n0, nS]
    with_reducible refine wk ?_
    try simp only [nP, nN, nA, n0, nS]
    with_reducible refine wv (.bool true) ?_
    try simp only [nP, nN, nA, n0, nS]
    refine wpList_nil ?_
    exact hjK5 _ _ _ _ _ _ _ _ _ _ _ _ _ _ _ _ _ _ _ _ _ _ _ _ _ _ _ _ _ _ _ _ _ _ _ _ _ _ _ _ _ _ _ _ _ _ _ _ _ _ _ _ _ true _ Zb2 Zb3 ee (by first | (simp only [hb32, hb33, hb34, hb35, hb36, hb37, hb38]; done) | (simp only [hb32, hb33, hb34, hb35, hb36, hb37, hb38]; rfl) | simp [hb32, hb33, hb34, hb35, hb36, hb37, hb38])
   with_reducible refine wb (.bool false) (.agg ([.int .i64 a.ii, .int .i64 a.ij]).toArray) (.agg ([.int .i64 b.ii, .int .i64 b.ij]).toArray) 26 (run_neOfEq (by have := run_eqId a.ii a.ij b.ii b.ij z2; rw [hb38] at this; exact this)) ?_
   try simp only [nP, nN, nA, n0, nS]
   with_reducible refine wv (.bool false) ?_
   try simp only [nP, nN, nA, n0, nS]
   with_reducible refine wv (.bool false) ?_
   try simp only [nP, nN, nA, n0, nS]
   with_reducible refine wv (.pointer (some ⟨g2, 23, none⟩)) ?_
   try simp only [nP, nN, nA, n0, nS]
   with_reducible refine wl (.int .i64 a.g) ⟨g2, 23, none⟩ (rowCell Zb2 (23) rfl) Tryd.underlying3 ?_
   try simp only [nP, nN, nA, n0, nS]
   with_reducible refine wv (.pointer (some ⟨g3, 23, none⟩)) ?_
   try simp only [nP, nN, nA, n0, nS]
   with_reducible refine wl (.int .i64 b.g) ⟨g3, 23, none⟩ (rowCell Zb3 (23) rfl) Tryd.underlying3 ?_
   try simp only [nP, nN, nA, n0, nS]
   obtain ⟨b39, hb39⟩ : ∃ d_ : Bool, (decide (a.g = b.g)) = d_ := ⟨_, rfl⟩
   cases b39
   ·have pb39 : ¬ (a.g = b.g) := of_decide_eq_false hb39
    with_reducible refine wb (.bool true) (.int .i64 a.g) (.int .i64 b.g) 3 (run_neqI hb39) ?_
    try simp only [nP, nN, nA, n0, nS]
    with_reducible refine wv (.bool true) ?_
    try simp only [nP, nN, nA, n0, nS]
    with_reducible refine wv (.bool true) ?_
    try simp only [nP, nN, nA, n0, nS]
    with_reducible refine wk ?_
    try simp only [nP, nN, nA, n0, nS]
    with_reducible refine wk ?_
    try simp only [nP, nN, nA, n0, nS]
    with_reducible refine wk ?_
    try simp only [nP, nN, nA, n0, nS]
    with_reducible refine wk ?_
    try simp only [nP, nN, nA, n0, nS]
    with_reducible refine wk ?_
    try simp only [nP, nN, nA, n0, nS]
    with_reducible refine wv (.bool true) ?_
    try simp only [nP, nN, nA, n0, nS]
    refine wpList_nil ?_
    exact hjK5 _ _ _ _ _ _ _ _ _ _ _ _ _ _ _ _ _ _ _ _ _ _ _ _ _ _ _ _ _ _ _ _ _ _ _ _ _ _ _ _ _ _ _ _ _ _ _ _ _ _ _ _ _ true _ Zb2 Zb3 ee (by first | (simp only [hb32, hb33, hb34, hb35, hb36, hb37, hb38, hb39]; done) | (simp only [hb32, hb33, hb34, hb35, hb36, hb37, hb38, hb39]; rfl) | simp [hb32, hb33, hb34, hb35, hb36, hb37, hb38, hb39])
   have pb39 : a.g = b.g := of_decide_eq_true hb39
   with_reducible refine wb (.bool false) (.int .i64 a.g) (.int .i64 b.g) 3 (run_neqI hb39) ?_
   try simp only [nP, nN, nA, n0, nS]
   with_reducible refine wv (.bool false) ?_
   try simp only [nP, nN, nA, n0, nS]
   with_reducible refine wv (.bool false) ?_
   try simp only [nP, nN, nA, n0, nS]
   with_reducible refine wv (.pointer (some ⟨g2, 24, none⟩)) ?_
   try simp only [nP, nN, nA, n0, nS]
   with_reducible refine wl (.int .u64 ((a.st : Int))) ⟨g2, 24, none⟩ (rowCell Zb2 (24) rfl) Tryd.underlying31 ?_
   try simp only [nP, nN, nA, n0, nS]
   with_reducible refine wv (.pointer (some ⟨g3, 24, none⟩)) ?_
   try simp only [nP, nN, nA, n0, nS]
   with_reducible refine wl (.int .u64 ((b.st : Int))) ⟨g3, 24, none⟩ (rowCell Zb3 (24) rfl) Tryd.underlying31 ?_
   try simp only [nP, nN, nA, n0, nS]
   obtain ⟨b40, hb40⟩ : ∃ d_ : Bool, (decide ((a.st : Int) = (b.st : Int))) = d_ := ⟨_, rfl⟩
   cases b40
   ·have pb40 : ¬ ((a.st : Int) = (b.st : Int)) := of_decide_eq_false hb40
    with_reducible refine wb (.bool true) (.int .u64 ((a.st : Int))) (.int .u64 ((b.st : Int))) 31 (run_neqI hb40) ?_
    try simp only [nP, nN, nA, n0, nS]
    with_reducible refine wv (.bool true) ?_
    try simp only [nP, nN, nA, n0, nS]
    refine wpList_nil ?_
    exact hjK5 _ _ _ _ _ _ _ _ _ _ _ _ _ _ _ _ _ _ _ _ _ _ _ _ _ _ _ _ _ _ _ _ _ _ _ _ _ _ _ _ _ _ _ _ _ _ _ _ _ _ _ _ _ true _ Zb2 Zb3 ee (by first | (simp only [hb32, hb33, hb34, hb35, hb36, hb37, hb38, hb39, hb40]; done) | (simp only [hb32, hb33, hb34, hb35, hb36, hb37, hb38, hb39, hb40]; rfl) | simp [hb32, hb33, hb34, hb35, hb36, hb37, hb38, hb39, hb40])
   have pb40 : (a.st : Int) = (b.st : Int) := of_decide_eq_true hb40
   with_reducible refine wb (.bool false) (.int .u64 ((a.st : Int))) (.int .u64 ((b.st : Int))) 31 (run_neqI hb40) ?_
   try simp only [nP, nN, nA, n0, nS]
   with_reducible refine wv (.bool false) ?_
   try simp only [nP, nN, nA, n0, nS]
   refine wpList_nil ?_
   exact hjK5 _ _ _ _ _ _ _ _ _ _ _ _ _ _ _ _ _ _ _ _ _ _ _ _ _ _ _ _ _ _ _ _ _ _ _ _ _ _ _ _ _ _ _ _ _ _ _ _ _ _ _ _ _ false _ Zb2 Zb3 ee (by first | (simp only [hb32, hb33, hb34, hb35, hb36, hb37, hb38, hb39, hb40]; done) | (simp only [hb32, hb33, hb34, hb35, hb36, hb37, hb38, hb39, hb40]; rfl) | simp [hb32, hb33, hb34, hb35, hb36, hb37, hb38, hb39, hb40])
  with_reducible refine wv (.bool true) ?_
  try simp only [nP, nN, nA, n0, nS]
  with_reducible refine wv (.bool true) ?_
  try simp only [nP, nN, nA, n0, nS]
  with_reducible refine wv (.bool true) ?_
  try simp only [nP, nN, nA, n0, nS]
  with_reducible refine wk ?_
  try simp only [nP, nN, nA, n0, nS]
  with_reducible refine wk ?_
  try simp only [nP, nN, nA, n0, nS]
  with_reducible refine wk ?_
  try simp only [nP, nN, nA, n0, nS]
  with_reducible refine wk ?_
  try simp only [nP, nN, nA, n0, nS]
  with_reducible refine wk ?_
  try simp only [nP, nN, nA, n0, nS]
  with_reducible refine wv (.bool true) ?_
  try simp only [nP, nN, nA, n0, nS]
  with_reducible refine wv (.bool true) ?_
  try simp only [nP, nN, nA, n0, nS]
  with_reducible refine wk ?_
  try simp only [nP, nN, nA, n0, nS]
  with_reducible refine wk ?_
  try simp only [nP, nN, nA, n0, nS]
  with_reducible refine wk ?_
  try simp only [nP, nN, nA, n0, nS]
  with_reducible refine wk ?_
  try simp only [nP, nN, nA, n0, nS]
  with_reducible refine wk ?_
  try simp only [nP, nN, nA, n0, nS]
  with_reducible refine wv (.bool true) ?_
  try simp only [nP, nN, nA, n0, nS]
  with_reducible refine wv (.bool true) ?_
  try simp only [nP, nN, nA, n0, nS]
  with_reducible refine wk ?_
  try simp only [nP, nN, nA, n0, nS]
  with_reducible refine wk ?_
  try simp only [nP, nN, nA, n0, nS]
  with_reducible refine wk ?_
  try simp only [nP, nN, nA, n0, nS]
  with_reducible refine wk ?_
  try simp only [nP, nN, nA, n0, nS]
  with_reducible refine wk ?_
  try simp only [nP, nN, nA, n0, nS]
  with_reducible refine wv (.bool true) ?_
  try simp only [nP, nN, nA, n0, nS]
  with_reducible refine wv (.bool true) ?_
  try simp only [nP, nN, nA, n0, nS]
  with_reducible refine wk ?_
  try simp only [nP, nN, nA, n0, nS]
  with_reducible refine wk ?_
  try simp only [nP, nN, nA, n0, nS]
  with_reducible refine wk ?_
  try simp only [nP, nN, nA, n0, nS]
  with_reducible refine wk ?_
  try simp only [nP, nN, nA, n0, nS]
  with_reducible refine wk ?_
  try simp only [nP, nN, nA, n0, nS]
  with_reducible refine wv (.bool true) ?_
  try simp only [nP, nN, nA, n0, nS]
  refine wpList_nil ?_
  exact hjK5 _ _ _ _ _ _ _ _ _ _ _ _ _ _ _ _ _ _ _ _ _ _ _ _ _ _ _ _ _ _ _ _ _ _ _ _ _ _ _ _ _ _ _ _ _ _ _ _ _ _ _ _ _ true _ Zb2 Zb3 ee (by first | (simp only [hb32, hb33, hb34, hb35, hb36]; done) | (simp only [hb32, hb33, hb34, hb35, hb36]; rfl) | simp [hb32, hb33, hb34, hb35, hb36])
 cases b36
 ·with_reducible refine wv (.bool true) ?_
  try simp only [nP, nN, nA, n0, nS]
  with_reducible refine wv (.bool true) ?_
  try simp only [nP, nN, nA, n0, nS]
  with_reducible refine wv (.bool true) ?_
  try simp only [nP, nN, nA, n0, nS]
  with_reducible refine wk ?_
  try simp only [nP, nN, nA, n0, nS]
  with_reducible refine wk ?_
  try simp only [nP, nN, nA, n0, nS]
  with_reducible refine wk ?_
  try simp only [nP, nN, nA, n0, nS]
  with_reducible refine wk ?_
  try simp only [nP, nN, nA, n0, nS]
  with_reducible refine wk ?_
  try simp only [nP, nN, nA, n0, nS]
  with_reducible refine wv (.bool true) ?_
  try simp only [nP, nN, nA, n0, nS]
  with_reducible refine wv (.bool true) ?_
  try simp only [nP, nN, nA, n0, nS]
  with_reducible refine wk ?_
  try simp only [nP, nN, nA, n0, nS]
  with_reducible refine wk ?_
  try simp only [nP, nN, nA, n0, nS]
  with_reducible refine wk ?_
  try simp only [nP, nN, nA, n0, nS]
  with_reducible refine wk ?_
  try simp only [nP, nN, nA, n0, nS]
  with_reducible refine wk ?_
  try simp only [nP, nN, nA, n0, nS]
  with_reducible refine wv (.bool true) ?_
  try simp only [nP, nN, nA, n0, nS]
  with_reducible refine wv (.bool true) ?_
  try simp only [nP, nN, nA, n0, nS]
  with_reducible refine wk ?_
  try simp only [nP, nN, nA, n0, nS]
  with_reducible refine wk ?_
  try simp only [nP, nN, nA, n0, nS]
  with_reducible refine wk ?_
  try simp only [nP, nN, nA, n0, nS]
  with_reducible refine wk ?_
  try simp only [nP, nN, nA, n0, nS]
  with_reducible refine wk ?_
  try simp only [nP, nN, nA, n0, nS]
  with_reducible refine wv (.bool true) ?_
  try simp only [nP, nN, nA, n0, nS]
  with_reducible refine wv (.bool true) ?_
  try simp only [nP, nN, nA, n0, nS]
  with_reducible refine wk ?_
  try simp only [nP, nN, nA, n0, nS]
  with_reducible refine wk ?_
  try simp only [nP, nN, nA, n0, nS]
  with_reducible refine wk ?_
  try simp only [nP, nN, nA, n0, nS]
  with_reducible refine wk ?_
  try simp only [nP, nN, nA, n0, nS]
  with_reducible refine wk ?_
  try simp only [nP, nN, nA, n0, nS]
  with_reducible refine wv (.bool true) ?_
  try simp only [nP, nN, nA, n0, nS]
  refine wpList_nil ?_
  exact hjK5 _ _ _ _ _ _ _ _ _ _ _ _ _ _ _ _ _ _ _ _ _ _ _ _ _ _ _ _ _ _ _ _ _ _ _ _ _ _ _ _ _ _ _ _ _ _ _ _ _ _ _ _ _ true _ Zb2 Zb3 ee (by first | (simp only [hb32, hb33, hb34, hb35, hb36]; done) | (simp only [hb32, hb33, hb34, hb35, hb36]; rfl) | simp [hb32, hb33, hb34, hb35, hb36])
 with_reducible refine wv (.bool false) ?_
 try simp only [nP, nN, nA, n0, nS]
 with_reducible refine wv (.bool false) ?_
 try simp only [nP, nN, nA, n0, nS]
 with_reducible refine wv (.bool false) ?_
 try simp only [nP, nN, nA, n0, nS]
 with_reducible refine wv (.pointer (some ⟨g2, 5, none⟩)) ?_
 try simp only [nP, nN, nA, n0, nS]
 with_reducible refine wg (g2) (5) ([.int .u32 (a.vr : Int), .int .i64 a.vn]) (rowMid Zb2 (5) (partOf 5 (by kernel_rfl))) Tryd.underlying44 ?_
 try simp only [nP, nN, nA, n0, nS]
 with_reducible refine wv (.pointer (some ⟨g3, 5, none⟩)) ?_
 try simp only [nP, nN, nA, n0, nS]
 with_reducible refine wg (g3) (5) ([.int .u32 (b.vr : Int), .int .i64 b.vn]) (rowMid Zb3 (5) (partOf 5 (by kernel_rfl))) Tryd.underlying44 ?_
 try simp only [nP, nN, nA, n0, nS]
 obtain ⟨b41, hb41⟩ : ∃ d_ : Bool, (decide (a.vr = b.vr ∧ a.vn = b.vn)) = d_ := ⟨_, rfl⟩
 cases b41
 ·with_reducible refine wb (.bool true) (.agg ([.int .u32 (a.vr : Int), .int .i64 a.vn]).toArray) (.agg ([.int .u32 (b.vr : Int), .int .i64 b.vn]).toArray) 44 (run_neOfEq (by have := B.run_eqRBal a.vr a.vn b.vr b.vn z2; rw [hb41] at this; exact this)) ?_
  try simp only [nP, nN, nA, n0, nS]
  with_reducible refine wv (.bool true) ?_
  try simp only [nP, nN, nA, n0, nS]
  with_reducible refine wv (.bool true) ?_
  try simp only [nP, nN, nA, n0, nS]
  with_reducible refine wk ?_
  try simp only [nP, nN, nA, n0, nS]
  with_reducible refine wk ?_
  try simp only [nP, nN, nA, n0, nS]
  with_reducible refine wk ?_
  try simp only [nP, nN, nA, n0, nS]
  with_reducible refine wk ?_
  try simp only [nP, nN, nA, n0, nS]
  with_reducible refine wk ?_
  try simp only [nP, nN, nA, n0, nS]
  with_reducible refine wv (.bool true) ?_
  try simp only [nP, nN, nA, n0, nS]
  with_reducible refine wv (.bool true) ?_
  try simp only [nP, nN, nA, n0, nS]
  with_reducible refine wk ?_
  try simp only [nP, nN, nA, n0, nS]
  with_reducible refine wk ?_
  try simp only [nP, nN, nA, n0, nS]
  with_reducible refine wk ?_
  try simp only [nP, nN, nA, n0, nS]
  with_reducible refine wk ?_
  try simp only [nP, nN, nA, n0, nS]
  with_reducible refine wk ?_
  try simp only [nP, nN, nA, n0, nS]
  with_reducible refine wv (.bool true) ?_
  try simp only [nP, nN, nA, n0, nS]
  with_reducible refine wv (.bool true) ?_
  try simp only [nP, nN, nA, n0, nS]
  with_reducible refine wk ?_
  try simp only [nP, nN, nA, n0, nS]
  with_reducible refine wk ?_
  try simp only [nP, nN, nA, n0, nS]
  with_reducible refine wk ?_
  try simp only [nP, nN, nA, n0, nS]
  with_reducible refine wk ?_
  try simp only [nP, nN, nA, n0, nS]
  with_reducible refine wk ?_
  try simp only [nP, nN, nA, n0, nS]
  with_reducible refine wv (.bool true) ?_
  try simp only [nP, nN, nA, n0, nS]
  refine wpList_nil ?_
  exact hjK5 _ _ _ _ _ _ _ _ _ _ _ _ _ _ _ _ _ _ _ _ _ _ _ _ _ _ _ _ _ _ _ _ _ _ _ _ _ _ _ _ _ _ _ _ _ _ _ _ _ _ _ _ _ true _ Zb2 Zb3 ee (by first | (simp only [hb32, hb33, hb34, hb35, hb36, hb41]; done) | (simp only [hb32, hb33, hb34, hb35, hb36, hb41]; rfl) | simp [hb32, hb33, hb34, hb35, hb36, hb41])
 with_reducible refine wb (.bool false) (.agg ([.int .u32 (a.vr : Int), .int .i64 a.vn]).toArray) (.agg ([.int .u32 (b.vr : Int), .int .i64 b.vn]).toArray) 44 (run_neOfEq (by have := B.run_eqRBal a.vr a.vn b.vr b.vn z2; rw [hb41] at this; exact this)) ?_
 try simp only [nP, nN, nA, n0, nS]
 with_reducible refine wv (.bool false) ?_
 try simp only [nP, nN, nA, n0, nS]
 with_reducible refine wv (.bool false) ?_
 try simp only [nP, nN, nA, n0, nS]
 with_reducible refine wv (.pointer (some ⟨g2, 21, none⟩)) ?_
 try simp only [nP, nN, nA, n0, nS]
 with_reducible refine wg (g2) (21) ([.int .i64 a.ii, .int .i64 a.ij]) (rowMid Zb2 (21) (partOf 21 (by kernel_rfl))) Tryd.underlying26 ?_
 try simp only [nP, nN, nA, n0, nS]
 with_reducible refine wv (.pointer (some ⟨g3, 21, none⟩)) ?_
 try simp only [nP, nN, nA, n0, nS]
 with_reducible refine wg (g3) (21) ([.int .i64 b.ii, .int .i64 b.ij]) (rowMid Zb3 (21) (partOf 21 (by kernel_rfl))) Tryd.underlying26 ?_
 try simp only [nP, nN, nA, n0, nS]
 obtain ⟨b42, hb42⟩ : ∃ d_ : Bool, (decide (a.ii = b.ii ∧ a.ij = b.ij)) = d_ := ⟨_, rfl⟩
 cases b42
 ·with_reducible refine wb (.bool true) (.agg ([.int .i64 a.ii, .int .i64 a.ij]).toArray) (.agg ([.int .i64 b.ii, .int .i64 b.ij]).toArray) 26 (run_neOfEq (by have := run_eqId a.ii a.ij b.ii b.ij z2; rw [hb42] at this; exact this)) ?_
  try simp only [nP, nN, nA, n0, nS]
  with_reducible refine wv (.bool true) ?_
  try simp only [nP, nN, nA, n0, nS]
  with_reducible refine wv (.bool true) ?_
  try simp only [nP, nN, nA, n0, nS]
  with_reducible refine wk ?_
  try simp only [nP, nN, nA, n0, nS]
  with_reducible refine wk ?_
  try simp only [nP, nN, nA, n0, nS]
  with_reducible refine wk ?_
  try simp only [nP, nN, nA, n0, nS]
  with_reducible refine wk ?_
  try simp only [nP, nN, nA, n0, nS]
  with_reducible refine wk ?_
  try simp only [nP, nN, nA, n0, nS]
  with_reducible refine wv (.bool true) ?_
  try simp only [nP, nN, nA, n0, nS]
  with_reducible refine wv (.bool true) ?_
  try simp only [nP, nN, nA, n0, nS]
  with_reducible refine wk ?_
  try simp only [nP, nN, nA, n0, nS]
  with_reducible refine wk ?_
  try simp only [nP, nN, nA, n0, nS]
  with_reducible refine wk ?_
  try simp only [nP, nN, nA, n0, nS]
  with_reducible refine wk ?_
  try simp only [nP, nN, nA, n0, nS]
  with_reducible refine wk ?_
  try simp only [nP, nN, nA, n0, nS]
  with_reducible refine wv (.bool true) ?_
  try simp only [nP, nN, nA, n0, nS]
  refine wpList_nil ?_
  exact hjK5 _ _ _ _ _ _ _ _ _ _ _ _ _ _ _ _ _ _ _ _ _ _ _ _ _ _ _ _ _ _ _ _ _ _ _ _ _ _ _ _ _ _ _ _ _ _ _ _ _ _ _ _ _ true _ Zb2 Zb3 ee (by first | (simp only [hb32, hb33, hb34, hb35, hb36, hb41, hb42]; done) | (simp only [hb32, hb33, hb34, hb35, hb36, hb41, hb42]; rfl) | simp [hb32, hb33, hb34, hb35, hb36, hb41, hb42])
 with_reducible refine wb (.bool false) (.agg ([.int .i64 a.ii, .int .i64 a.ij]).toArray) (.agg ([.int .i64 b.ii, .int .i64 b.ij]).toArray) 26 (run_neOfEq (by have := run_eqId a.ii a.ij b.ii b.ij z2; rw [hb42] at this; exact this)) ?_
 try simp only [nP, nN, nA, n0, nS]
 with_reducible refine wv (.bool false) ?_
 try simp only [nP, nN, nA, n0, nS]
 with_reducible refine wv (.bool false) ?_
 try simp only [nP, nN, nA, n0, nS]
 with_reducible refine wv (.pointer (some ⟨g2, 23, none⟩)) ?_
 try simp only [nP, nN, nA, n0, nS]
 with_reducible refine wl (.int .i64 a.g) ⟨g2, 23, none⟩ (rowCell Zb2 (23) rfl) Tryd.underlying3 ?_
 try simp only [nP, nN, nA, n0, nS]
 with_reducible refine wv (.pointer (some ⟨g3, 23, none⟩)) ?_
 try simp only [nP, nN, nA, n0, nS]
 with_reducible refine wl (.int .i64 b.g) ⟨g3, 23, none⟩ (rowCell Zb3 (23) rfl) Tryd.underlying3 ?_
 try simp only [nP, nN, nA, n0, nS]
 obtain ⟨b43, hb43⟩ : ∃ d_ : Bool, (decide (a.g = b.g)) = d_ := ⟨_, rfl⟩
 cases b43
 ·have pb43 : ¬ (a.g = b.g) := of_decide_eq_false hb43
  with_reducible refine wb (.bool true) (.int .i64 a.g) (.int .i64 b.g) 3 (run_neqI hb43) ?_
  try simp only [nP, nN, nA, n0, nS]
  with_reducible refine wv (.bool true) ?_
  try simp only [nP, nN, nA, n0, nS]
  with_reducible refine wv (.bool true) ?_
  try simp only [nP, nN, nA, n0, nS]
  with_reducible refine wk ?_
  try simp only [nP, nN, nA, n0, nS]
  with_reducible refine wk ?_
  try simp only [nP, nN, nA, n0, nS]
  with_reducible refine wk ?_
  try simp only [nP, nN, nA, n0, nS]
  with_reducible refine wk ?_
  try simp only [nP, nN, nA, n0, nS]
  with_reducible refine wk ?_
  try simp only [nP, nN, nA, n0, nS]
  with_reducible refine wv (.bool true) ?_
  try simp only [nP, nN, nA, n0, nS]
  refine wpList_nil ?_
  exact hjK5 _ _ _ _ _ _ _ _ _ _ _ _ _ _ _ _ _ _ _ _ _ _ _ _ _ _ _ _ _ _ _ _ _ _ _ _ _ _ _ _ _ _ _ _ _ _ _ _ _ _ _ _ _ true _ Zb2 Zb3 ee (by first | (simp only [hb32, hb33, hb34, hb35, hb36, hb41, hb42, hb43]; done) | (simp only [hb32, hb33, hb34, hb35, hb36, hb41, hb42, hb43]; rfl) | simp [hb32, hb33, hb34, hb35, hb36, hb41, hb42, hb43])
 have pb43 : a.g = b.g := of_decide_eq_true hb43
 with_reducible refine wb (.bool false) (.int .i64 a.g) (.int .i64 b.g) 3 (run_neqI hb43) ?_
 try simp only [nP, nN, nA, n0, nS]
 with_reducible refine wv (.bool false) ?_
 try simp only [nP, nN, nA, n0, nS]
 with_reducible refine wv (.bool false) ?_
 try simp only [nP, nN, nA, n0, nS]
 with_reducible refine wv (.pointer (some ⟨g2, 24, none⟩)) ?_
 try simp only [nP, nN, nA, n0, nS]
 with_reducible refine wl (.int .u64 ((a.st : Int))) ⟨g2, 24, none⟩ (rowCell Zb2 (24) rfl) Tryd.underlying31 ?_
 try simp only [nP, nN, nA, n0, nS]
 with_reducible refine wv (.pointer (some ⟨g3, 24, none⟩)) ?_
 try simp only [nP, nN, nA, n0, nS]
 with_reducible refine wl (.int .u64 ((b.st : Int))) ⟨g3, 24, none⟩ (rowCell Zb3 (24) rfl) Tryd.underlying31 ?_
 try simp only [nP, nN, nA, n0, nS]
 obtain ⟨b44, hb44⟩ : ∃ d_ : Bool, (decide ((a.st : Int) = (b.st : Int))) = d_ := ⟨_, rfl⟩
 cases b44
 ·have pb44 : ¬ ((a.st : Int) = (b.st : Int)) := of_decide_eq_false hb44
  with_reducible refine wb (.bool true) (.int .u64 ((a.st : Int))) (.int .u64 ((b.st : Int))) 31 (run_neqI hb44) ?_
  try simp only [nP, nN, nA, n0, nS]
  with_reducible refine wv (.bool true) ?_
  try simp only [nP, nN, nA, n0, nS]
  refine wpList_nil ?_
  exact hjK5 _ _ _ _ _ _ _ _ _ _ _ _ _ _ _ _ _ _ _ _ _ _ _ _ _ _ _ _ _ _ _ _ _ _ _ _ _ _ _ _ _ _ _ _ _ _ _ _ _ _ _ _ _ true _ Zb2 Zb3 ee (by first | (simp only [hb32, hb33, hb34, hb35, hb36, hb41, hb42, hb43, hb44]; done) | (simp only [hb32, hb33, hb34, hb35, hb36, hb41, hb42, hb43, hb44]; rfl) | simp [hb32, hb33, hb34, hb35, hb36, hb41, hb42, hb43, hb44])
 have pb44 : (a.st : Int) = (b.st : Int) := of_decide_eq_true hb44
 with_reducible refine wb (.bool false) (.int .u64 ((a.st : Int))) (.int .u64 ((b.st : Int))) 31 (run_neqI hb44) ?_
 try simp only [nP, nN, nA, n0, nS]
 with_reducible refine wv (.bool false) ?_
 try simp only [nP, nN, nA, n0, nS]
 refine wpList_nil ?_
 exact hjK5 _ _ _ _ _ _ _ _ _ _ _ _ _ _ _ _ _ _ _ _ _ _ _ _ _ _ _ _ _ _ _ _ _ _ _ _ _ _ _ _ _ _ _ _ _ _ _ _ _ _ _ _ _ false _ Zb2 Zb3 ee (by first | (simp only [hb32, hb33, hb34, hb35, hb36, hb41, hb42, hb43, hb44]; done) | (simp only [hb32, hb33, hb34, hb35, hb36, hb41, hb42, hb43, hb44]; rfl) | simp [hb32, hb33, hb34, hb35, hb36, hb41, hb42, hb43, hb44])
theorem rsame_eq (a b : Ms) : T.Ms.rsame a b = a.same b := by
 rw [Bool.eq_iff_iff]
 unfold T.Ms.rsame T.Ms.same
 cases a.ha <;> cases b.ha <;> cases a.ye <;> cases b.ye <;> simp [Lib.toList_data] <;> grind
theorem rmsame_any (a b : Ms) (w : World) (B0 : Nat) (hB : B0 ≤ w.heap.size) (oka : MsOk w B0 a) (okb : MsOk w B0 b) (sa : a.small) (sb : b.small) : Calls Tryd.prog 19 #[.agg a.cells.toArray, .agg b.cells.toArray] w fun e w' => e = .returned (.bool (a.same b)) ∧ Below w.heap.size w w' := by
 have h := rmsame0 a b w B0 hB oka okb sa sb
 rw [rsame_eq] at h
 exact h
end Go.Proofs.YtjofjpmhokjhnaaDoor

namespace Go.Proofs.YtjofjpmhokjhnaaDoor
set_option maxRecDepth 20001
open Go.RowKit T
set_option linter.unusedSimpArgs false
set_option linter.unusedVariables false

theorem sameOf {a b : Ms} (h : Like a b) : a.same b = true := by
 unfold T.Ms.same SameT
 simp only [Bool.and_eq_true, beq_iff_eq, decide_eq_true_eq]
 exact ⟨⟨⟨⟨⟨⟨⟨⟨⟨⟨⟨⟨⟨⟨⟨⟨h.kd, h.br, h.bn⟩, h.sl⟩, h.ha⟩, h.vr, h.vn⟩, h.ii, h.ij⟩, h.g⟩, by rw [h.st]⟩, h.ye⟩, h.nu⟩, by rw [h.ky]⟩, by rw [h.ve]⟩, h.vk, h.vb, by rw [h.vt]⟩, h.er⟩, h.c⟩, h.ts, h.tq, h.tr, h.tw⟩, h.dt⟩
theorem smallOf {a b : Ms} (h : Like a b) (s : b.small) : a.small := ⟨by rw [h.ky]; exact s.1, by rw [h.vt]; exact s.2.1, by rw [h.dt]; exact s.2.2⟩
theorem small70 {m : Ms} (h : m.small) : m.dt.length ≤ 70000 := h.2.2
theorem rmsame_t (a b : Ms) (w : World) (B0 : Nat) (hB : B0 ≤ w.heap.size) (oka : MsOk w B0 a) (okb : MsOk w B0 b) (sb : a.small) (h : Like b a) : Calls Tryd.prog 19 #[.agg a.cells.toArray, .agg b.cells.toArray] w fun e w' => e = .returned (.bool true) ∧ Below w.heap.size w w' := by
 have q := rmsame_any a b w B0 hB oka okb sb (smallOf h sb)
 rw [sameOf h.symm] at q
 exact q
theorem wr_len9 (m : Ms) (h : m.dt.length ≤ 70000) : m.wr.length ≤ 20000000 := by
 have h1 := wl_len0 m h 7
 have h2 := fields_len m.kd
 rw [wl_end m 7 (by omega)] at h1
 omega
theorem wr_split (m : Ms) : ∃ b x, m.wr = b ++ [x] := by
 rcases List.eq_nil_or_concat m.wr with h | ⟨b, x, h⟩
 ·exfalso
  unfold T.Ms.wr at h
  rw [fold_app (fun (l : List UInt8) (c : UInt8) => m.wput l c.toNat) (fun l c => wputA m l c.toNat) (fieldsOf m.kd) (C.put [] (T.nz m.kd) 1), put_one] at h
  simp at h
 ·exact ⟨b, x, by rw [h]; simp⟩
theorem slPre {w : World} {B n c : Nat} {A : Option Addr} {l b : List UInt8} {x : UInt8} (h : SlB w B (.slice A n c) l) (e : l = b ++ [x]) : SlB w B (.slice A b.length c) b := by
 subst e
 obtain ⟨A2, c2, e1, h2, h3, h4, h5⟩ := h
 injection e1 with e6 e7 e8
 subst e6; subst e8
 rw [List.length_append] at h2
 refine ⟨A, c, rfl, by omega, h3, fun q => ?_, fun j u hu => h5 j u ?_⟩
 ·have := (h4 q).1
  simp at this
 ·rw [bc_app]
  rw [List.getElem?_append_left (List.getElem?_eq_some_iff.1 hu).1]; exact hu
theorem exec_slice_h {a : Act} {o : Oper} {w : World} (x hi : Operand) {A : Option Addr} {len cap : Nat} {h : Nat} (ho : o.op = .slice 37 x none (some hi) none) (hx : a.eval x = .slice A len cap) (hh : a.eval hi = .int .i64 (h : Int)) (h2 : h ≤ cap) :
  (execOp a.eval o).run Tryd.prog w = .ok (.value (.slice A h cap)) w := by
 have q := run_slice_h (P := Tryd.prog) (w := w) 37 A len cap (by kernel_rfl) .i64 (h : Int) (by omega) (by omega)
 have hz : (sizeOf (Tryd.prog.elem 37)).run Tryd.prog w = .ok 1 w := by kernel_rfl
 rw [hz] at q
 simp only [Result.andThen_ok, sliced, Nat.zero_mul, Int.toNat_natCast, Nat.sub_zero] at q
 have hA : (if cap = 0 then A else A.map (·.add 0)) = A := by
  split
  ·rfl
  ·cases A with
   | none => rfl
   | some p => exact congrArg some (by cases p; simp [Addr.add])
 rw [hA] at q
 unfold execOp
 simp only [ho, hx, hh, Option.map_some, Option.map_none, Sem.run_bind, Sem.run_pure, Result.andThen_ok, run_sliceAt_slice (P := Tryd.prog) (w := w) 37 _ _ _ _ (by kernel_rfl), q]
set_option maxHeartbeats 25600000 in
theorem mback_any (m : Ms) (wxx : UInt8) (w : World) (ok : MsOk w w.heap.size m) (hT : Tabs w) :
  Calls Tryd.prog 9 #[.agg m.cells.toArray, .int .u8 (wxx.toNat : Int)] w fun e w' => e = .returned (.bool true) ∧ Below w.heap.size w w' := by
 have ee : Below w.heap.size w w := Below.refl _ _
 go_enter Tryd.func9, Tryd.ntmps9
 refine wp_seq_k fun K1 hK1 => ?_
 refine wp_region_lit ?_
 with_reducible refine ww (.pointer (some ⟨w.heap.size, 0, none⟩)) (w.alloc (.cells (m.cells).toArray 39)) ?_
 try simp only [nP, nN, nA, n0, nS]
 have sz_g2 := ee.size
 have sz_ := ee.size
 have ee := ee.alloc ee.size (.cells (m.cells).toArray 39)
 have Zb2 := hpN w (.cells (m.cells).toArray 39) rfl
 obtain ⟨z1, hz_⟩ : ∃ z_ : World, z_ = w.alloc (.cells (m.cells).toArray 39) := ⟨_, rfl⟩
 rw [← hz_] at Zb2 ee ⊢
 clear hz_
 obtain ⟨g2, hg_g2⟩ : ∃ g_, g_ = w.heap.size := ⟨_, rfl⟩
 have hB_g2 : w.heap.size ≤ g2 := by rw [hg_g2]; exact sz_g2
 rw [← hg_g2] at Zb2 ⊢
 clear hg_g2
 with_reducible refine wv (.bool false) ?_
 try simp only [nP, nN, nA, n0, nS]
 refine wpList_nil ?_
 refine hK1 _ _ ?_
 refine wp_seq_k fun K3 hK3 => ?_
 refine wp_seq_k fun K4 hK4 => ?_
 refine wp_region_lit ?_
 with_reducible refine wc 11 #[] (awake10_any z1 (hT.below ee)) ?_
 rintro e z2 ⟨rfl, t⟩
 refine ⟨_, rfl, ?_⟩
 have Zb2 := hpB Zb2 t
 have ee := ee.trans (t.mono ee.size)
 clear t
 try simp only [nP, nN, nA, n0, nS]
 with_reducible refine wv (.bool false) ?_
 try simp only [nP, nN, nA, n0, nS]
 with_reducible refine wv (.bool false) ?_
 try simp only [nP, nN, nA, n0, nS]
 with_reducible refine wg (g2) (0) (m.cells) (rowAt Zb2) Tryd.underlying39 ?_
 try simp only [nP, nN, nA, n0, nS]
 with_reducible refine wc 12 #[.agg (m.cells).toArray] (few10_any m z2 w.heap.size ee.size (ok.below ee (Nat.le_refl _))) ?_
 rintro e z3 ⟨⟨r0, rfl, hs0⟩, t⟩
 refine ⟨_, rfl, ?_⟩
 have Zb2 := hpB Zb2 t
 have ee := ee.trans (t.mono ee.size)
 clear t
 try simp only [nP, nN, nA, n0, nS]
 cases r0
 ·with_reducible refine wv (.bool true) ?_
  try simp only [nP, nN, nA, n0, nS]
  with_reducible refine wv (.bool true) ?_
  try simp only [nP, nN, nA, n0, nS]
  with_reducible refine wv (.bool true) ?_
  try simp only [nP, nN, nA, n0, nS]
  with_reducible refine wk ?_
  try simp only [nP, nN, nA, n0, nS]
  with_reducible refine wk ?_
  try simp only [nP, nN, nA, n0, nS]
  with_reducible refine wk ?_
  try simp only [nP, nN, nA, n0, nS]
  with_reducible refine wv (.bool true) ?_
  try simp only [nP, nN, nA, n0, nS]
  refine wpList_nil ?_
  refine hK4 _ _ ?_
  refine wp_cond_true (by kernel_rfl) ?_
  refine wp_seq_k fun K5 hK5 => ?_
  refine wp_region_lit ?_
  with_reducible refine wc 11 #[] (awake10_any z3 (hT.below ee)) ?_
  rintro e z4 ⟨rfl, t⟩
  refine ⟨_, rfl, ?_⟩
  have Zb2 := hpB Zb2 t
  have ee := ee.trans (t.mono ee.size)
  clear t
  try simp only [nP, nN, nA, n0, nS]
  with_reducible refine wv (.bool true) ?_
  try simp only [nP, nN, nA, n0, nS]
  refine wpList_nil ?_
  refine hK5 _ _ ?_
  refine wp_ret ?_
  refine then_ret ?_
  exact bodyPost_ret (v := .bool true) (by kernel_rfl) rfl ⟨rfl, ee⟩
 with_reducible refine wv (.bool false) ?_
 try simp only [nP, nN, nA, n0, nS]
 with_reducible refine wv (.bool false) ?_
 try simp only [nP, nN, nA, n0, nS]
 with_reducible refine wv (.bool false) ?_
 try simp only [nP, nN, nA, n0, nS]
 with_reducible refine wg (g2) (0) (m.cells) (rowAt Zb2) Tryd.underlying39 ?_
 try simp only [nP, nN, nA, n0, nS]
 with_reducible refine wc 13 #[.agg (m.cells).toArray] (mformed_any m z3 w.heap.size ee.size (ok.below ee (Nat.le_refl _)) (hT.below ee)) ?_
 rintro e z4 ⟨rfl, t⟩
 refine ⟨_, rfl, ?_⟩
 have Zb2 := hpB Zb2 t
 have ee := ee.trans (t.mono ee.size)
 clear t
 generalize hb6 : m.formed = b6
 try simp only [nP, nN, nA, n0, nS]
 cases b6
 ·with_reducible refine wv (.bool true) ?_
  try simp only [nP, nN, nA, n0, nS]
  with_reducible refine wv (.bool true) ?_
  try simp only [nP, nN, nA, n0, nS]
  refine wpList_nil ?_
  refine hK4 _ _ ?_
  refine wp_cond_true (by kernel_rfl) ?_
  refine wp_seq_k fun K7 hK7 => ?_
  refine wp_region_lit ?_
  with_reducible refine wc 11 #[] (awake10_any z4 (hT.below ee)) ?_
  rintro e z5 ⟨rfl, t⟩
  refine ⟨_, rfl, ?_⟩
  have Zb2 := hpB Zb2 t
  have ee := ee.trans (t.mono ee.size)
  clear t
  try simp only [nP, nN, nA, n0, nS]
  with_reducible refine wv (.bool true) ?_
  try simp only [nP, nN, nA, n0, nS]
  refine wpList_nil ?_
  refine hK7 _ _ ?_
  refine wp_ret ?_
  refine then_ret ?_
  exact bodyPost_ret (v := .bool true) (by kernel_rfl) rfl ⟨rfl, ee⟩
 with_reducible refine wv (.bool false) ?_
 try simp only [nP, nN, nA, n0, nS]
 with_reducible refine wv (.bool false) ?_
 try simp only [nP, nN, nA, n0, nS]
 refine wpList_nil ?_
 refine hK4 _ _ ?_
 refine wp_cond_false (by kernel_rfl) ?_
 refine wp_skip ?_
 refine hK3 _ _ ?_
 refine wp_seq_k fun K8 hK8 => ?_
 refine wp_region_lit ?_
 with_reducible refine wg (g2) (0) (m.cells) (rowAt Zb2) Tryd.underlying39 ?_
 try simp only [nP, nN, nA, n0, nS]
 have small70_ := small70 (hs0 (by trivial))
 with_reducible refine wc 20 #[.agg (m.cells).toArray] (mwrite_any m z4 w.heap.size ee.size (ok.below ee (Nat.le_refl _)) (Nat.le_trans small70_ (by decide)) (hT.below ee)) ?_
 rintro e z5 ⟨⟨v1, l1, x1, rfl, s1, hx1, hl1⟩, t⟩
 refine ⟨_, rfl, ?_⟩
 have Zb2 := hpB Zb2 t
 have ee := ee.trans (t.mono ee.size)
 clear t
 have hx0 : x1 = 0 := by rw [hx1, hb6]; rfl
 clear hx1
 subst hx0
 have hl0 : l1 = m.wr := by rw [hl1, hb6]; rfl
 clear hl1
 subst hl0
 have s1_ := s1
 obtain ⟨A1, c1, e1_, hc1, _⟩ := s1_
 subst e1_
 have ew := Below.refl z5.heap.size z5
 obtain ⟨wbs, wx, hwb⟩ := wr_split m
 have hwl : m.wr.length = wbs.length + 1 := by rw [hwb]; simp
 have hw9 := wr_len9 m (small70 (hs0 (by trivial)))
 try simp only [nP, nN, nA, n0, nS]
 with_reducible refine wv (.tuple #[.slice A1 m.wr.length c1, .int .i64 0]) ?_
 try simp only [nP, nN, nA, n0, nS]
 with_reducible refine wv (.slice A1 m.wr.length c1) ?_
 try simp only [nP, nN, nA, n0, nS]
 with_reducible refine wv (.int .i64 0) ?_
 try simp only [nP, nN, nA, n0, nS]
 with_reducible refine wv (.slice A1 m.wr.length c1) ?_
 try simp only [nP, nN, nA, n0, nS]
 with_reducible refine wv (.int .i64 0) ?_
 try simp only [nP, nN, nA, n0, nS]
 refine wpList_nil ?_
 refine hK8 _ _ ?_
 refine wp_seq_k fun K9 hK9 => ?_
 refine wp_region_lit ?_
 with_reducible refine wv (.slice A1 m.wr.length c1) ?_
 try simp only [nP, nN, nA, n0, nS]
 with_reducible refine wc 37 #[.slice A1 m.wr.length c1] (mread_any (b := .slice A1 m.wr.length c1) (l := m.wr) z5 ((s1.belowM ew (Nat.le_refl _)).more ew.size) (by omega) (hT.below ee)) ?_
 rintro e z6 ⟨⟨n1, x1_, rfl, okn1, hx1_, ln1⟩, t⟩
 refine ⟨_, rfl, ?_⟩
 have Zb2 := hpB Zb2 t
 have ee := ee.trans (t.mono ee.size)
 have ew := ew.trans (t.mono ew.size)
 clear t
 have hf_ := fitsOf ok
 have hr1 : rok m.wr = true := rok_wr m hb6 hf_
 rw [hr1] at hx1_ ln1
 simp only [cond_true] at hx1_ ln1
 subst hx1_
 have lm : Like n1 m := ln1.trans (by have q_ := rdm_wr m hb6 hf_ []; rw [List.append_nil] at q_; exact q_)
 have en1 := Below.refl z6.heap.size z6
 try simp only [nP, nN, nA, n0, nS]
 with_reducible refine wv (.tuple #[.agg (n1.cells).toArray, .int .i64 0]) ?_
 try simp only [nP, nN, nA, n0, nS]
 with_reducible refine wv (.agg (n1.cells).toArray) ?_
 try simp only [nP, nN, nA, n0, nS]
 with_reducible refine wv (.int .i64 0) ?_
 try simp only [nP, nN, nA, n0, nS]
 with_reducible refine ww (.pointer (some ⟨z6.heap.size, 0, none⟩)) (z6.alloc (.cells #[.int .i64 0, .int .u32 0, .int .i64 0, .int .i64 0, .bool false, .int .u32 0, .int .i64 0, .int .i64 0, .int .i64 0, .int .i64 0, .slice none 0 0, .slice none 0 0, .int .i64 0, .int .i64 0, .int .i64 0, .int .u64 0, .bool false, .int .i64 0, .int .i64 0, .slice none 0 0, .slice none 0 0, .int .i64 0, .int .i64 0, .int .i64 0, .int .u64 0, .bool false, .int .i64 0, .string ByteArray.empty, .int .u64 0, .int .i64 0, .int .u64 0, .string ByteArray.empty, .int .i64 0, .slice none 0 0] 39)) ?_
 try simp only [nP, nN, nA, n0, nS]
 have sz_g10 := ee.size
 have sz_g10_ew := ew.size
 have sz_g10_en1 := en1.size
 have lZb2 := (Array.getElem?_eq_some_iff.1 Zb2).1
 have sz_ := ee.size
 have Zb2 := hpA Zb2 (.cells #[.int .i64 0, .int .u32 0, .int .i64 0, .int .i64 0, .bool false, .int .u32 0, .int .i64 0, .int .i64 0, .int .i64 0, .int .i64 0, .slice none 0 0, .slice none 0 0, .int .i64 0, .int .i64 0, .int .i64 0, .int .u64 0, .bool false, .int .i64 0, .int .i64 0, .slice none 0 0, .slice none 0 0, .int .i64 0, .int .i64 0, .int .i64 0, .int .u64 0, .bool false, .int .i64 0, .string ByteArray.empty, .int .u64 0, .int .i64 0, .int .u64 0, .string ByteArray.empty, .int .i64 0, .slice none 0 0] 39)
 have ee := ee.alloc ee.size (.cells #[.int .i64 0, .int .u32 0, .int .i64 0, .int .i64 0, .bool false, .int .u32 0, .int .i64 0, .int .i64 0, .int .i64 0, .int .i64 0, .slice none 0 0, .slice none 0 0, .int .i64 0, .int .i64 0, .int .i64 0, .int .u64 0, .bool false, .int .i64 0, .int .i64 0, .slice none 0 0, .slice none 0 0, .int .i64 0, .int .i64 0, .int .i64 0, .int .u64 0, .bool false, .int .i64 0, .string ByteArray.empty, .int .u64 0, .int .i64 0, .int .u64 0, .string ByteArray.empty, .int .i64 0, .slice none 0 0] 39)
 have ew := ew.alloc ew.size (.cells #[.int .i64 0, .int .u32 0, .int .i64 0, .int .i64 0, .bool false, .int .u32 0, .int .i64 0, .int .i64 0, .int .i64 0, .int .i64 0, .slice none 0 0, .slice none 0 0, .int .i64 0, .int .i64 0, .int .i64 0, .int .u64 0, .bool false, .int .i64 0, .int .i64 0, .slice none 0 0, .slice none 0 0, .int .i64 0, .int .i64 0, .int .i64 0, .int .u64 0, .bool false, .int .i64 0, .string ByteArray.empty, .int .u64 0, .int .i64 0, .int .u64 0, .string ByteArray.empty, .int .i64 0, .slice none 0 0] 39)
 have en1 := en1.alloc en1.size (.cells #[.int .i64 0, .int .u32 0, .int .i64 0, .int .i64 0, .bool false, .int .u32 0, .int .i64 0, .int .i64 0, .int .i64 0, .int .i64 0, .slice none 0 0, .slice none 0 0, .int .i64 0, .int .i64 0, .int .i64 0, .int .u64 0, .bool false, .int .i64 0, .int .i64 0, .slice none 0 0, .slice none 0 0, .int .i64 0, .int .i64 0, .int .i64 0, .int .u64 0, .bool false, .int .i64 0, .string ByteArray.empty, .int .u64 0, .int .i64 0, .int .u64 0, .string ByteArray.empty, .int .i64 0, .slice none 0 0] 39)
 have Zv7 := hpN z6 (.cells #[.int .i64 0, .int .u32 0, .int .i64 0, .int .i64 0, .bool false, .int .u32 0, .int .i64 0, .int .i64 0, .int .i64 0, .int .i64 0, .slice none 0 0, .slice none 0 0, .int .i64 0, .int .i64 0, .int .i64 0, .int .u64 0, .bool false, .int .i64 0, .int .i64 0, .slice none 0 0, .slice none 0 0, .int .i64 0, .int .i64 0, .int .i64 0, .int .u64 0, .bool false, .int .i64 0, .string ByteArray.empty, .int .u64 0, .int .i64 0, .int .u64 0, .string ByteArray.empty, .int .i64 0, .slice none 0 0] 39) rfl
 obtain ⟨z7, hz_⟩ : ∃ z_ : World, z_ = z6.alloc (.cells #[.int .i64 0, .int .u32 0, .int .i64 0, .int .i64 0, .bool false, .int .u32 0, .int .i64 0, .int .i64 0, .int .i64 0, .int .i64 0, .slice none 0 0, .slice none 0 0, .int .i64 0, .int .i64 0, .int .i64 0, .int .u64 0, .bool false, .int .i64 0, .int .i64 0, .slice none 0 0, .slice none 0 0, .int .i64 0, .int .i64 0, .int .i64 0, .int .u64 0, .bool false, .int .i64 0, .string ByteArray.empty, .int .u64 0, .int .i64 0, .int .u64 0, .string ByteArray.empty, .int .i64 0, .slice none 0 0] 39) := ⟨_, rfl⟩
 rw [← hz_] at Zb2 Zv7 ee ew en1 ⊢
 clear hz_
 obtain ⟨g10, hg_g10⟩ : ∃ g_, g_ = z6.heap.size := ⟨_, rfl⟩
 have n_g10_Zb2 : g2 < g10 := by rw [hg_g10]; exact lZb2
 have hB_g10 : w.heap.size ≤ g10 := by rw [hg_g10]; exact sz_g10
 have hB_g10_ew : z5.heap.size ≤ g10 := by rw [hg_g10]; exact sz_g10_ew
 have hB_g10_en1 : z6.heap.size ≤ g10 := by rw [hg_g10]; exact sz_g10_en1
 rw [← hg_g10] at Zv7 ⊢
 clear hg_g10 lZb2
 refine wpList_store_row rfl 39 _ _ rfl (g10) (n1.cells).toArray rfl rfl 39 _ Zv7 sizeMs (by rfl) (Ms.one _) ?_
 have N_ := setRow_heap z7 (g10) _ (n1.cells).toArray _ _ Zv7
 have ee := belowSet (cs := (n1.cells).toArray) ee Zv7 (by omega)
 have ew := belowSet (cs := (n1.cells).toArray) ew Zv7 (by omega)
 have en1 := belowSet (cs := (n1.cells).toArray) en1 Zv7 (by omega)
 have Zb2 := hpR Zb2 (g' := g10) (by omega) (n1.cells).toArray
 clear Zv7
 have Zv7 := N_
 clear N_
 obtain ⟨z8, hz_⟩ : ∃ z_ : World, z_ = z7.setRow (g10) (n1.cells).toArray := ⟨_, rfl⟩
 rw [← hz_] at Zb2 Zv7 ee ew en1 ⊢
 clear hz_
 try simp only [nP, nN, nA, n0, nS]
 with_reducible refine wv (.int .i64 0) ?_
 try simp only [nP, nN, nA, n0, nS]
 refine wpList_nil ?_
 refine hK9 _ _ ?_
 refine wp_seq_k fun K11 hK11 => ?_
 refine wp_seq_k fun K12 hK12 => ?_
 have Zb2 : z8.drew.heap[g2]? = some (.cells (m.cells).toArray 39) := Zb2
 have Zv7 : z8.drew.heap[g10]? = some (.cells (n1.cells).toArray 39) := Zv7
 have ee := belowDrewS ee
 have ew := belowDrewS ew
 have en1 := belowDrewS en1
 -- region 5
 with_reducible refine any_begin (fun z' => z'.heap[g2]? = some (.cells (m.cells).toArray 39 (0, 0)) ∧ z'.heap[g10]? = some (.cells (n1.cells).toArray 39 (0, 0))) 19 #[false, false, false, false, false, false, false, false, false, false, false, false, false, false, false, false, false, false, false] ⟨Zb2, Zv7⟩ ?_ ?_
 ·intro c_ a_ d_ v_ w_ h_; cases d_ <;> exact h_
 obtain ⟨z9, hz_⟩ : ∃ z_ : World, z_ = z8.drew := ⟨_, rfl⟩
 rw [← hz_] at Zb2 Zv7 ee ew en1 ⊢
 clear hz_
 with_reducible refine ha 0 (some 37) (.int .i64 0) #[true, false, false, false, false, false, false, false, false, false, false, false, false, false, false, false, false, false, false] (fun w_ _ => by kernel_rfl) ⟨Zb2, Zv7⟩ ?_
 try simp only [nP, nN, nA, n0, nS]
 with_reducible refine ha 1 (some 38) (.bool false) #[true, true, false, false, false, false, false, false, false, false, false, false, false, false, false, false, false, false, false] (fun w_ _ => runBin (.bool false) (.int .i64 0) (.int .i64 0) 36 (run_neqI (show (decide (0 = 0)) = true from by decide))) ⟨Zb2, Zv7⟩ ?_
 try simp only [nP, nN, nA, n0, nS]
 with_reducible refine ha 2 (some 39) (.bool false) #[true, true, true, false, false, false, false, false, false, false, false, false, false, false, false, false, false, false, false] (fun w_ _ => by kernel_rfl) ⟨Zb2, Zv7⟩ ?_
 try simp only [nP, nN, nA, n0, nS]
 with_reducible refine ha 3 (some 40) (.int .i64 0) #[true, true, true, true, false, false, false, false, false, false, false, false, false, false, false, false, false, false, false] (fun w_ _ => by kernel_rfl) ⟨Zb2, Zv7⟩ ?_
 try simp only [nP, nN, nA, n0, nS]
 with_reducible refine ha 4 (some 41) (.bool false) #[true, true, true, true, true, false, false, false, false, false, false, false, false, false, false, false, false, false, false] (fun w_ _ => runBin (.bool false) (.int .i64 0) (.int .i64 0) 36 (run_neqI (show (decide (0 = 0)) = true from by decide))) ⟨Zb2, Zv7⟩ ?_
 try simp only [nP, nN, nA, n0, nS]
 with_reducible refine ha 5 (some 42) (.bool false) #[true, true, true, true, true, true, false, false, false, false, false, false, false, false, false, false, false, false, false] (fun w_ _ => by kernel_rfl) ⟨Zb2, Zv7⟩ ?_
 try simp only [nP, nN, nA, n0, nS]
 with_reducible refine ha 6 (some 43) (.bool false) #[true, true, true, true, true, true, true, false, false, false, false, false, false, false, false, false, false, false, false] (fun w_ _ => by kernel_rfl) ⟨Zb2, Zv7⟩ ?_
 try simp only [nP, nN, nA, n0, nS]
 with_reducible refine hg_ 7 (some 44) (g2) (0) (m.cells) #[true, true, true, true, true, true, true, true, false, false, false, false, false, false, false, false, false, false, false] (fun _ h_ => (rowAt h_.1)) Tryd.underlying39 ⟨Zb2, Zv7⟩ ?_
 try simp only [nP, nN, nA, n0, nS]
 with_reducible refine hg_ 9 (some 46) (g10) (0) (n1.cells) #[true, true, true, true, true, true, true, true, false, true, false, false, false, false, false, false, false, false, false] (fun _ h_ => (rowAt h_.2)) Tryd.underlying39 ⟨Zb2, Zv7⟩ ?_
 try simp only [nP, nN, nA, n0, nS]
 with_reducible refine any1 8 ?_
 with_reducible refine st_f 8 (some 45) 15 #[.agg (m.cells).toArray] #[true, true, true, true, true, true, true, true, true, true, false, false, false, false, false, false, false, false, false] (mplain_any m z9) ?_
 rintro e z10 ⟨rfl, t⟩
 refine ⟨_, rfl, ?_⟩
 have Zb2 := hpB Zb2 t
 have Zv7 := hpB Zv7 t
 have ee := ee.trans (t.mono ee.size)
 have ew := ew.trans (t.mono ew.size)
 have en1 := en1.trans (t.mono en1.size)
 clear t
 refine ⟨⟨Zb2, Zv7⟩, ?_⟩
 try simp only [nP, nN, nA, n0, nS]
 with_reducible refine any1 10 ?_
 with_reducible refine st_f 10 (some 47) 15 #[.agg (n1.cells).toArray] #[true, true, true, true, true, true, true, true, true, true, true, false, false, false, false, false, false, false, false] (mplain_any n1 z10) ?_
 rintro e z11 ⟨rfl, t⟩
 refine ⟨_, rfl, ?_⟩
 have Zb2 := hpB Zb2 t
 have Zv7 := hpB Zv7 t
 have ee := ee.trans (t.mono ee.size)
 have ew := ew.trans (t.mono ew.size)
 have en1 := en1.trans (t.mono en1.size)
 clear t
 refine ⟨⟨Zb2, Zv7⟩, ?_⟩
 try simp only [nP, nN, nA, n0, nS]
 with_reducible refine any1 11 ?_
 with_reducible refine st_f 11 (some 48) 19 #[.agg (m.cells).toArray, .agg (n1.cells).toArray] #[true, true, true, true, true, true, true, true, true, true, true, true, false, false, false, false, false, false, false] (rmsame_t m n1 z11 z11.heap.size (Nat.le_refl _) ((ok.below ee (Nat.le_refl _)).more ee.size) ((okn1.below en1 (Nat.le_refl _)).more en1.size) (hs0 (by trivial)) lm) ?_
 rintro e z12 ⟨rfl, t⟩
 refine ⟨_, rfl, ?_⟩
 have Zb2 := hpB Zb2 t
 have Zv7 := hpB Zv7 t
 have ee := ee.trans (t.mono ee.size)
 have ew := ew.trans (t.mono ew.size)
 have en1 := en1.trans (t.mono en1.size)
 clear t
 refine ⟨⟨Zb2, Zv7⟩, ?_⟩
 try simp only [nP, nN, nA, n0, nS]
 with_reducible refine ha 12 (some 49) (.bool false) #[true, true, true, true, true, true, true, true, true, true, true, true, true, false, false, false, false, false, false] (fun w_ _ => by kernel_rfl) ⟨Zb2, Zv7⟩ ?_
 try simp only [nP, nN, nA, n0, nS]
 with_reducible refine ha 13 (some 50) (.bool false) #[true, true, true, true, true, true, true, true, true, true, true, true, true, true, false, false, false, false, false] (fun w_ _ => by kernel_rfl) ⟨Zb2, Zv7⟩ ?_
 try simp only [nP, nN, nA, n0, nS]
 with_reducible refine ha 14 (some 51) (.bool false) #[true, true, true, true, true, true, true, true, true, true, true, true, true, true, true, false, false, false, false] (fun w_ _ => by kernel_rfl) ⟨Zb2, Zv7⟩ ?_
 try simp only [nP, nN, nA, n0, nS]
 with_reducible refine ha 15 (some 52) (.slice A1 m.wr.length c1) #[true, true, true, true, true, true, true, true, true, true, true, true, true, true, true, true, false, false, false] (fun w_ _ => by kernel_rfl) ⟨Zb2, Zv7⟩ ?_
 try simp only [nP, nN, nA, n0, nS]
 with_reducible refine ha 16 (some 53) (.int .i64 ((m.wr.length : Int))) #[true, true, true, true, true, true, true, true, true, true, true, true, true, true, true, true, true, false, false] (fun w_ _ => by kernel_rfl) ⟨Zb2, Zv7⟩ ?_
 try simp only [nP, nN, nA, n0, nS]
 with_reducible refine ha 17 (some 54) (.bool false) #[true, true, true, true, true, true, true, true, true, true, true, true, true, true, true, true, true, true, false] (fun w_ _ => runBin (.bool false) (.int .i64 ((m.wr.length : Int))) (.int .i64 0) 3 (run_eqlI ((decide_eq_false (by omega)) : (decide ((m.wr.length : Int) = 0)) = false))) ⟨Zb2, Zv7⟩ ?_
 try simp only [nP, nN, nA, n0, nS]
 with_reducible refine ha 18 (some 55) (.bool false) #[true, true, true, true, true, true, true, true, true, true, true, true, true, true, true, true, true, true, true] (fun w_ _ => by kernel_rfl) ⟨Zb2, Zv7⟩ ?_
 try simp only [nP, nN, nA, n0, nS]
 with_reducible refine any_end ?_
 refine hK12 _ _ ?_
 refine wp_cond_false (by kernel_rfl) ?_
 refine wp_skip ?_
 refine hK11 _ _ ?_
 refine wp_seq_k fun K13 hK13 => ?_
 refine wp_region_lit ?_
 with_reducible refine wv (.slice none 0 0) ?_
 try simp only [nP, nN, nA, n0, nS]
 refine wpList_nil ?_
 refine hK13 _ _ ?_
 refine wp_seq_k fun K14 hK14 => ?_
 refine wp_region_lit ?_
 with_reducible refine wv (.slice none 0 0) ?_
 try simp only [nP, nN, nA, n0, nS]
 with_reducible refine wv (.slice A1 m.wr.length c1) ?_
 try simp only [nP, nN, nA, n0, nS]
 have eo := Below.refl z12.heap.size z12
 have hzo := ee.size
 have hzw := ew.size
 have hzn := en1.size
 have O : OwnB z12 z12.heap.size (.slice none 0 0) [] := OwnB.nil
 with_reducible refine wa8 (.tmp 56) (.tmp 57) O (((s1.belowM ew (Nat.le_refl _)).more ew.size)) (by simp) (by omega) eo.size ?_
 intro v_ z13 O_ g_
 have Zb2 := heapKind O g_ (by decide) Zb2
 have Zv7 := heapKind O g_ (by decide) Zv7
 have ee := ee.grown g_ ee.size (fun i_ h_ => by have := (O.lt i_ h_).1; omega)
 have ew := ew.grown g_ ew.size (fun i_ h_ => by have := (O.lt i_ h_).1; omega)
 have en1 := en1.grown g_ en1.size (fun i_ h_ => by have := (O.lt i_ h_).1; omega)
 have eo := eo.grown g_ eo.size (fun i_ h_ => by have := (O.lt i_ h_).1; omega)
 clear g_ O
 have O := O_
 clear O_
 obtain ⟨a15, e_a15⟩ : ∃ q_, q_ = v_ := ⟨_, rfl⟩
 subst e_a15
 rw [List.nil_append] at O
 with_reducible refine wv (a15) ?_
 try simp only [nP, nN, nA, n0, nS]
 refine wpList_nil ?_
 refine hK14 _ _ ?_
 refine wp_seq_k fun K16 hK16 => ?_
 refine wp_region_lit ?_
 with_reducible refine wv (a15) ?_
 try simp only [nP, nN, nA, n0, nS]
 with_reducible refine wv (.int .u8 ((wxx.toNat : Int))) ?_
 try simp only [nP, nN, nA, n0, nS]
 with_reducible refine ww (.slice (some ⟨z13.heap.size, 0, none⟩) 1 1) (z13.alloc (.cells #[.int .u8 ((wxx.toNat : Int))] 5)) ?_
 try simp only [nP, nN, nA, n0, nS]
 have sz_g17 := ee.size
 have sz_g17_ew := ew.size
 have sz_g17_en1 := en1.size
 have sz_g17_eo := eo.size
 have lZb2 := (Array.getElem?_eq_some_iff.1 Zb2).1
 have lZv7 := (Array.getElem?_eq_some_iff.1 Zv7).1
 have sz_ := ee.size
 have ne_O_Zs61 : (a15 : Value).ownBlock ≠ some (z13.heap.size) := fun hb_ => by have hh_ := (O.lt _ hb_).2; omega
 have Zb2 := hpA Zb2 (.cells #[.int .u8 ((wxx.toNat : Int))] 5)
 have Zv7 := hpA Zv7 (.cells #[.int .u8 ((wxx.toNat : Int))] 5)
 have O := O.alloc (.cells #[.int .u8 ((wxx.toNat : Int))] 5)
 have ee := ee.alloc ee.size (.cells #[.int .u8 ((wxx.toNat : Int))] 5)
 have ew := ew.alloc ew.size (.cells #[.int .u8 ((wxx.toNat : Int))] 5)
 have en1 := en1.alloc en1.size (.cells #[.int .u8 ((wxx.toNat : Int))] 5)
 have eo := eo.alloc eo.size (.cells #[.int .u8 ((wxx.toNat : Int))] 5)
 have Zs61 := hpN z13 (.cells #[.int .u8 ((wxx.toNat : Int))] 5) rfl
 obtain ⟨z14, hz_⟩ : ∃ z_ : World, z_ = z13.alloc (.cells #[.int .u8 ((wxx.toNat : Int))] 5) := ⟨_, rfl⟩
 rw [← hz_] at Zb2 Zv7 Zs61 O ee ew en1 eo ⊢
 clear hz_
 obtain ⟨g17, hg_g17⟩ : ∃ g_, g_ = z13.heap.size := ⟨_, rfl⟩
 have n_g17_Zb2 : g2 < g17 := by rw [hg_g17]; exact lZb2
 have n_g17_Zv7 : g10 < g17 := by rw [hg_g17]; exact lZv7
 have hB_g17 : w.heap.size ≤ g17 := by rw [hg_g17]; exact sz_g17
 have hB_g17_ew : z5.heap.size ≤ g17 := by rw [hg_g17]; exact sz_g17_ew
 have hB_g17_en1 : z6.heap.size ≤ g17 := by rw [hg_g17]; exact sz_g17_en1
 have hB_g17_eo : z12.heap.size ≤ g17 := by rw [hg_g17]; exact sz_g17_eo
 rw [← hg_g17] at Zs61 ⊢
 clear hg_g17 lZb2 lZv7
 with_reducible refine wa8 (.tmp 59) (.tmp 61) O (slOne (b := wxx) Zs61 rfl) (by omega) (by simp) eo.size ?_
 intro v_ z15 O_ g_
 have Zb2 := heapKind O g_ (by decide) Zb2
 have Zv7 := heapKind O g_ (by decide) Zv7
 clear Zs61
 have ee := ee.grown g_ ee.size (fun i_ h_ => by have := (O.lt i_ h_).1; omega)
 have ew := ew.grown g_ ew.size (fun i_ h_ => by have := (O.lt i_ h_).1; omega)
 have en1 := en1.grown g_ en1.size (fun i_ h_ => by have := (O.lt i_ h_).1; omega)
 have eo := eo.grown g_ eo.size (fun i_ h_ => by have := (O.lt i_ h_).1; omega)
 clear g_ O
 have O := O_
 clear O_
 obtain ⟨a18, e_a18⟩ : ∃ q_, q_ = v_ := ⟨_, rfl⟩
 subst e_a18
 with_reducible refine wv (a18) ?_
 try simp only [nP, nN, nA, n0, nS]
 refine wpList_nil ?_
 refine hK16 _ _ ?_
 refine wp_seq_k fun K19 hK19 => ?_
 refine wp_region_lit ?_
 with_reducible refine wv (a18) ?_
 try simp only [nP, nN, nA, n0, nS]
 with_reducible refine wc 37 #[a18] (mread_any (b := a18) (l := m.wr ++ [wxx]) z15 (SlB.ofOwn O) (by rw [List.length_append, List.length_singleton]; omega) (hT.below ee)) ?_
 rintro e z16 ⟨⟨n2, x2_, rfl, okn2, hx2_, ln2⟩, t⟩
 refine ⟨_, rfl, ?_⟩
 clear O
 have Zb2 := hpB Zb2 t
 have Zv7 := hpB Zv7 t
 have ee := ee.trans (t.mono ee.size)
 have ew := ew.trans (t.mono ew.size)
 have en1 := en1.trans (t.mono en1.size)
 have eo := eo.trans (t.mono eo.size)
 clear t
 have hf_ := fitsOf ok
 have hr2 : rok (m.wr ++ [wxx]) = false := rok_more m hb6 hf_ wxx
 rw [hr2] at hx2_
 simp only [cond_false] at hx2_
 subst hx2_
 try simp only [nP, nN, nA, n0, nS]
 with_reducible refine wv (.tuple #[.agg (n2.cells).toArray, .int .i64 2]) ?_
 try simp only [nP, nN, nA, n0, nS]
 with_reducible refine wv (.agg (n2.cells).toArray) ?_
 try simp only [nP, nN, nA, n0, nS]
 with_reducible refine wv (.int .i64 2) ?_
 try simp only [nP, nN, nA, n0, nS]
 with_reducible refine ww (.pointer (some ⟨z16.heap.size, 0, none⟩)) (z16.alloc (.cells #[.int .i64 0, .int .u32 0, .int .i64 0, .int .i64 0, .bool false, .int .u32 0, .int .i64 0, .int .i64 0, .int .i64 0, .int .i64 0, .slice none 0 0, .slice none 0 0, .int .i64 0, .int .i64 0, .int .i64 0, .int .u64 0, .bool false, .int .i64 0, .int .i64 0, .slice none 0 0, .slice none 0 0, .int .i64 0, .int .i64 0, .int .i64 0, .int .u64 0, .bool false, .int .i64 0, .string ByteArray.empty, .int .u64 0, .int .i64 0, .int .u64 0, .string ByteArray.empty, .int .i64 0, .slice none 0 0] 39)) ?_
 try simp only [nP, nN, nA, n0, nS]
 have sz_g20 := ee.size
 have sz_g20_ew := ew.size
 have sz_g20_en1 := en1.size
 have sz_g20_eo := eo.size
 have lZb2 := (Array.getElem?_eq_some_iff.1 Zb2).1
 have lZv7 := (Array.getElem?_eq_some_iff.1 Zv7).1
 have sz_ := ee.size
 have Zb2 := hpA Zb2 (.cells #[.int .i64 0, .int .u32 0, .int .i64 0, .int .i64 0, .bool false, .int .u32 0, .int .i64 0, .int .i64 0, .int .i64 0, .int .i64 0, .slice none 0 0, .slice none 0 0, .int .i64 0, .int .i64 0, .int .i64 0, .int .u64 0, .bool false, .int .i64 0, .int .i64 0, .slice none 0 0, .slice none 0 0, .int .i64 0, .int .i64 0, .int .i64 0, .int .u64 0, .bool false, .int .i64 0, .string ByteArray.empty, .int .u64 0, .int .i64 0, .int .u64 0, .string ByteArray.empty, .int .i64 0, .slice none 0 0] 39)
 have Zv7 := hpA Zv7 (.cells #[.int .i64 0, .int .u32 0, .int .i64 0, .int .i64 0, .bool false, .int .u32 0, .int .i64 0, .int .i64 0, .int .i64 0, .int .i64 0, .slice none 0 0, .slice none 0 0, .int .i64 0, .int .i64 0, .int .i64 0, .int .u64 0, .bool false, .int .i64 0, .int .i64 0, .slice none 0 0, .slice none 0 0, .int .i64 0, .int .i64 0, .int .i64 0, .int .u64 0, .bool false, .int .i64 0, .string ByteArray.empty, .int .u64 0, .int .i64 0, .int .u64 0, .string ByteArray.empty, .int .i64 0, .slice none 0 0] 39)
 have ee := ee.alloc ee.size (.cells #[.int .i64 0, .int .u32 0, .int .i64 0, .int .i64 0, .bool false, .int .u32 0, .int .i64 0, .int .i64 0, .int .i64 0, .int .i64 0, .slice none 0 0, .slice none 0 0, .int .i64 0, .int .i64 0, .int .i64 0, .int .u64 0, .bool false, .int .i64 0, .int .i64 0, .slice none 0 0, .slice none 0 0, .int .i64 0, .int .i64 0, .int .i64 0, .int .u64 0, .bool false, .int .i64 0, .string ByteArray.empty, .int .u64 0, .int .i64 0, .int .u64 0, .string ByteArray.empty, .int .i64 0, .slice none 0 0] 39)
 have ew := ew.alloc ew.size (.cells #[.int .i64 0, .int .u32 0, .int .i64 0, .int .i64 0, .bool false, .int .u32 0, .int .i64 0, .int .i64 0, .int .i64 0, .int .i64 0, .slice none 0 0, .slice none 0 0, .int .i64 0, .int .i64 0, .int .i64 0, .int .u64 0, .bool false, .int .i64 0, .int .i64 0, .slice none 0 0, .slice none 0 0, .int .i64 0, .int .i64 0, .int .i64 0, .int .u64 0, .bool false, .int .i64 0, .string ByteArray.empty, .int .u64 0, .int .i64 0, .int .u64 0, .string ByteArray.empty, .int .i64 0, .slice none 0 0] 39)
 have en1 := en1.alloc en1.size (.cells #[.int .i64 0, .int .u32 0, .int .i64 0, .int .i64 0, .bool false, .int .u32 0, .int .i64 0, .int .i64 0, .int .i64 0, .int .i64 0, .slice none 0 0, .slice none 0 0, .int .i64 0, .int .i64 0, .int .i64 0, .int .u64 0, .bool false, .int .i64 0, .int .i64 0, .slice none 0 0, .slice none 0 0, .int .i64 0, .int .i64 0, .int .i64 0, .int .u64 0, .bool false, .int .i64 0, .string ByteArray.empty, .int .u64 0, .int .i64 0, .int .u64 0, .string ByteArray.empty, .int .i64 0, .slice none 0 0] 39)
 have eo := eo.alloc eo.size (.cells #[.int .i64 0, .int .u32 0, .int .i64 0, .int .i64 0, .bool false, .int .u32 0, .int .i64 0, .int .i64 0, .int .i64 0, .int .i64 0, .slice none 0 0, .slice none 0 0, .int .i64 0, .int .i64 0, .int .i64 0, .int .u64 0, .bool false, .int .i64 0, .int .i64 0, .slice none 0 0, .slice none 0 0, .int .i64 0, .int .i64 0, .int .i64 0, .int .u64 0, .bool false, .int .i64 0, .string ByteArray.empty, .int .u64 0, .int .i64 0, .int .u64 0, .string ByteArray.empty, .int .i64 0, .slice none 0 0] 39)
 have Zv10 := hpN z16 (.cells #[.int .i64 0, .int .u32 0, .int .i64 0, .int .i64 0, .bool false, .int .u32 0, .int .i64 0, .int .i64 0, .int .i64 0, .int .i64 0, .slice none 0 0, .slice none 0 0, .int .i64 0, .int .i64 0, .int .i64 0, .int .u64 0, .bool false, .int .i64 0, .int .i64 0, .slice none 0 0, .slice none 0 0, .int .i64 0, .int .i64 0, .int .i64 0, .int .u64 0, .bool false, .int .i64 0, .string ByteArray.empty, .int .u64 0, .int .i64 0, .int .u64 0, .string ByteArray.empty, .int .i64 0, .slice none 0 0] 39) rfl
 obtain ⟨z17, hz_⟩ : ∃ z_ : World, z_ = z16.alloc (.cells #[.int .i64 0, .int .u32 0, .int .i64 0, .int .i64 0, .bool false, .int .u32 0, .int .i64 0, .int .i64 0, .int .i64 0, .int .i64 0, .slice none 0 0, .slice none 0 0, .int .i64 0, .int .i64 0, .int .i64 0, .int .u64 0, .bool false, .int .i64 0, .int .i64 0, .slice none 0 0, .slice none 0 0, .int .i64 0, .int .i64 0, .int .i64 0, .int .u64 0, .bool false, .int .i64 0, .string ByteArray.empty, .int .u64 0, .int .i64 0, .int .u64 0, .string ByteArray.empty, .int .i64 0, .slice none 0 0] 39) := ⟨_, rfl⟩
 rw [← hz_] at Zb2 Zv7 Zv10 ee ew en1 eo ⊢
 clear hz_
 obtain ⟨g20, hg_g20⟩ : ∃ g_, g_ = z16.heap.size := ⟨_, rfl⟩
 have n_g20_Zb2 : g2 < g20 := by rw [hg_g20]; exact lZb2
 have n_g20_Zv7 : g10 < g20 := by rw [hg_g20]; exact lZv7
 have hB_g20 : w.heap.size ≤ g20 := by rw [hg_g20]; exact sz_g20
 have hB_g20_ew : z5.heap.size ≤ g20 := by rw [hg_g20]; exact sz_g20_ew
 have hB_g20_en1 : z6.heap.size ≤ g20 := by rw [hg_g20]; exact sz_g20_en1
 have hB_g20_eo : z12.heap.size ≤ g20 := by rw [hg_g20]; exact sz_g20_eo
 rw [← hg_g20] at Zv10 ⊢
 clear hg_g20 lZb2 lZv7
 refine wpList_store_row rfl 39 _ _ rfl (g20) (n2.cells).toArray rfl rfl 39 _ Zv10 sizeMs (by rfl) (Ms.one _) ?_
 have N_ := setRow_heap z17 (g20) _ (n2.cells).toArray _ _ Zv10
 have ee := belowSet (cs := (n2.cells).toArray) ee Zv10 (by omega)
 have ew := belowSet (cs := (n2.cells).toArray) ew Zv10 (by omega)
 have en1 := belowSet (cs := (n2.cells).toArray) en1 Zv10 (by omega)
 have eo := belowSet (cs := (n2.cells).toArray) eo Zv10 (by omega)
 have Zb2 := hpR Zb2 (g' := g20) (by omega) (n2.cells).toArray
 have Zv7 := hpR Zv7 (g' := g20) (by omega) (n2.cells).toArray
 clear Zv10
 have Zv10 := N_
 clear N_
 obtain ⟨z18, hz_⟩ : ∃ z_ : World, z_ = z17.setRow (g20) (n2.cells).toArray := ⟨_, rfl⟩
 rw [← hz_] at Zb2 Zv7 Zv10 ee ew en1 eo ⊢
 clear hz_
 try simp only [nP, nN, nA, n0, nS]
 with_reducible refine wv (.int .i64 2) ?_
 try simp only [nP, nN, nA, n0, nS]
 refine wpList_nil ?_
 refine hK19 _ _ ?_
 refine wp_seq_k fun K21 hK21 => ?_
 refine wp_region_lit ?_
 with_reducible refine wv (.slice A1 m.wr.length c1) ?_
 try simp only [nP, nN, nA, n0, nS]
 with_reducible refine wv (.slice A1 m.wr.length c1) ?_
 try simp only [nP, nN, nA, n0, nS]
 with_reducible refine wv (.int .i64 ((m.wr.length : Int))) ?_
 try simp only [nP, nN, nA, n0, nS]
 with_reducible refine wq (.int .i64 ((wbs.length : Int))) (okIntP ((by rw [IntKind.wrap_i64]; omega) : IntKind.i64.wrap ((m.wr.length : Int) - 1) = (wbs.length : Int)) (by kernel_rfl)) ?_
 try simp only [nP, nN, nA, n0, nS]
 with_reducible refine wq (.slice A1 wbs.length c1) (exec_slice_h (.tmp 69) (.tmp 72) (A := A1) (len := m.wr.length) (cap := c1) (h := wbs.length) (by kernel_rfl) (by kernel_rfl) (by kernel_rfl) (by omega)) ?_
 try simp only [nP, nN, nA, n0, nS]
 with_reducible refine wc 37 #[.slice A1 wbs.length c1] (mread_any (b := .slice A1 wbs.length c1) (l := wbs) z18 (slPre ((s1.belowM ew (Nat.le_refl _)).more ew.size) hwb) (by omega) (hT.below ee)) ?_
 rintro e z19 ⟨⟨n3, x3_, rfl, okn3, hx3_, ln3⟩, t⟩
 refine ⟨_, rfl, ?_⟩
 have Zb2 := hpB Zb2 t
 have Zv7 := hpB Zv7 t
 have Zv10 := hpB Zv10 t
 have ee := ee.trans (t.mono ee.size)
 have ew := ew.trans (t.mono ew.size)
 have en1 := en1.trans (t.mono en1.size)
 have eo := eo.trans (t.mono eo.size)
 clear t
 have hf_ := fitsOf ok
 have hr3 : rok wbs = false := by
  cases hq_ : rok wbs with
  | false => rfl
  | true => rw [hq_] at ln3; exact hq_.symm.trans (rok_less m n3 hb6 hf_ (fitsOf okn3) wbs wx hwb ln3)
 rw [hr3] at hx3_
 simp only [cond_false] at hx3_
 subst hx3_
 try simp only [nP, nN, nA, n0, nS]
 with_reducible refine wv (.tuple #[.agg (n3.cells).toArray, .int .i64 2]) ?_
 try simp only [nP, nN, nA, n0, nS]
 with_reducible refine wv (.agg (n3.cells).toArray) ?_
 try simp only [nP, nN, nA, n0, nS]
 with_reducible refine wv (.int .i64 2) ?_
 try simp only [nP, nN, nA, n0, nS]
 with_reducible refine ww (.pointer (some ⟨z19.heap.size, 0, none⟩)) (z19.alloc (.cells #[.int .i64 0, .int .u32 0, .int .i64 0, .int .i64 0, .bool false, .int .u32 0, .int .i64 0, .int .i64 0, .int .i64 0, .int .i64 0, .slice none 0 0, .slice none 0 0, .int .i64 0, .int .i64 0, .int .i64 0, .int .u64 0, .bool false, .int .i64 0, .int .i64 0, .slice none 0 0, .slice none 0 0, .int .i64 0, .int .i64 0, .int .i64 0, .int .u64 0, .bool false, .int .i64 0, .string ByteArray.empty, .int .u64 0, .int .i64 0, .int .u64 0, .string ByteArray.empty, .int .i64 0, .slice none 0 0] 39)) ?_
 try simp only [nP, nN, nA, n0, nS]
 have sz_g22 := ee.size
 have sz_g22_ew := ew.size
 have sz_g22_en1 := en1.size
 have sz_g22_eo := eo.size
 have lZb2 := (Array.getElem?_eq_some_iff.1 Zb2).1
 have lZv7 := (Array.getElem?_eq_some_iff.1 Zv7).1
 have lZv10 := (Array.getElem?_eq_some_iff.1 Zv10).1
 have sz_ := ee.size
 have Zb2 := hpA Zb2 (.cells #[.int .i64 0, .int .u32 0, .int .i64 0, .int .i64 0, .bool false, .int .u32 0, .int .i64 0, .int .i64 0, .int .i64 0, .int .i64 0, .slice none 0 0, .slice none 0 0, .int .i64 0, .int .i64 0, .int .i64 0, .int .u64 0, .bool false, .int .i64 0, .int .i64 0, .slice none 0 0, .slice none 0 0, .int .i64 0, .int .i64 0, .int .i64 0, .int .u64 0, .bool false, .int .i64 0, .string ByteArray.empty, .int .u64 0, .int .i64 0, .int .u64 0, .string ByteArray.empty, .int .i64 0, .slice none 0 0] 39)
 have Zv7 := hpA Zv7 (.cells #[.int .i64 0, .int .u32 0, .int .i64 0, .int .i64 0, .bool false, .int .u32 0, .int .i64 0, .int .i64 0, .int .i64 0, .int .i64 0, .slice none 0 0, .slice none 0 0, .int .i64 0, .int .i64 0, .int .i64 0, .int .u64 0, .bool false, .int .i64 0, .int .i64 0, .slice none 0 0, .slice none 0 0, .int .i64 0, .int .i64 0, .int .i64 0, .int .u64 0, .bool false, .int .i64 0, .string ByteArray.empty, .int .u64 0, .int .i64 0, .int .u64 0, .string ByteArray.empty, .int .i64 0, .slice none 0 0] 39)
 have Zv10 := hpA Zv10 (.cells #[.int .i64 0, .int .u32 0, .int .i64 0, .int .i64 0, .bool false, .int .u32 0, .int .i64 0, .int .i64 0, .int .i64 0, .int .i64 0, .slice none 0 0, .slice none 0 0, .int .i64 0, .int .i64 0, .int .i64 0, .int .u64 0, .bool false, .int .i64 0, .int .i64 0, .slice none 0 0, .slice none 0 0, .int .i64 0, .int .i64 0, .int .i64 0, .int .u64 0, .bool false, .int .i64 0, .string ByteArray.empty, .int .u64 0, .int .i64 0, .int .u64 0, .string ByteArray.empty, .int .i64 0, .slice none 0 0] 39)
 have ee := ee.alloc ee.size (.cells #[.int .i64 0, .int .u32 0, .int .i64 0, .int .i64 0, .bool false, .int .u32 0, .int .i64 0, .int .i64 0, .int .i64 0, .int .i64 0, .slice none 0 0, .slice none 0 0, .int .i64 0, .int .i64 0, .int .i64 0, .int .u64 0, .bool false, .int .i64 0, .int .i64 0, .slice none 0 0, .slice none 0 0, .int .i64 0, .int .i64 0, .int .i64 0, .int .u64 0, .bool false, .int .i64 0, .string ByteArray.empty, .int .u64 0, .int .i64 0, .int .u64 0, .string ByteArray.empty, .int .i64 0, .slice none 0 0] 39)
 have ew := ew.alloc ew.size (.cells #[.int .i64 0, .int .u32 0, .int .i64 0, .int .i64 0, .bool false, .int .u32 0, .int .i64 0, .int .i64 0, .int .i64 0, .int .i64 0, .slice none 0 0, .slice none 0 0, .int .i64 0, .int .i64 0, .int .i64 0, .int .u64 0, .bool false, .int .i64 0, .int .i64 0, .slice none 0 0, .slice none 0 0, .int .i64 0, .int .i64 0, .int .i64 0, .int .u64 0, .bool false, .int .i64 0, .string ByteArray.empty, .int .u64 0, .int .i64 0, .int .u64 0, .string ByteArray.empty, .int .i64 0, .slice none 0 0] 39)
 have en1 := en1.alloc en1.size (.cells #[.int .i64 0, .int .u32 0, .int .i64 0, .int .i64 0, .bool false, .int .u32 0, .int .i64 0, .int .i64 0, .int .i64 0, .int .i64 0, .slice none 0 0, .slice none 0 0, .int .i64 0, .int .i64 0, .int .i64 0, .int .u64 0, .bool false, .int .i64 0, .int .i64 0, .slice none 0 0, .slice none 0 0, .int .i64 0, .int .i64 0, .int .i64 0, .int .u64 0, .bool false, .int .i64 0, .string ByteArray.empty, .int .u64 0, .int .i64 0, .int .u64 0, .string ByteArray.empty, .int .i64 0, .slice none 0 0] 39)
 have eo := eo.alloc eo.size (.cells #[.int .i64 0, .int .u32 0, .int .i64 0, .int .i64 0, .bool false, .int .u32 0, .int .i64 0, .int .i64 0, .int .i64 0, .int .i64 0, .slice none 0 0, .slice none 0 0, .int .i64 0, .int .i64 0, .int .i64 0, .int .u64 0, .bool false, .int .i64 0, .int .i64 0, .slice none 0 0, .slice none 0 0, .int .i64 0, .int .i64 0, .int .i64 0, .int .u64 0, .bool false, .int .i64 0, .string ByteArray.empty, .int .u64 0, .int .i64 0, .int .u64 0, .string ByteArray.empty, .int .i64 0, .slice none 0 0] 39)
 have Zv12 := hpN z19 (.cells #[.int .i64 0, .int .u32 0, .int .i64 0, .int .i64 0, .bool false, .int .u32 0, .int .i64 0, .int .i64 0, .int .i64 0, .int .i64 0, .slice none 0 0, .slice none 0 0, .int .i64 0, .int .i64 0, .int .i64 0, .int .u64 0, .bool false, .int .i64 0, .int .i64 0, .slice none 0 0, .slice none 0 0, .int .i64 0, .int .i64 0, .int .i64 0, .int .u64 0, .bool false, .int .i64 0, .string ByteArray.empty, .int .u64 0, .int .i64 0, .int .u64 0, .string ByteArray.empty, .int .i64 0, .slice none 0 0] 39) rfl
 obtain ⟨z20, hz_⟩ : ∃ z_ : World, z_ = z19.alloc (.cells #[.int .i64 0, .int .u32 0, .int .i64 0, .int .i64 0, .bool false, .int .u32 0, .int .i64 0, .int .i64 0, .int .i64 0, .int .i64 0, .slice none 0 0, .slice none 0 0, .int .i64 0, .int .i64 0, .int .i64 0, .int .u64 0, .bool false, .int .i64 0, .int .i64 0, .slice none 0 0, .slice none 0 0, .int .i64 0, .int .i64 0, .int .i64 0, .int .u64 0, .bool false, .int .i64 0, .string ByteArray.empty, .int .u64 0, .int .i64 0, .int .u64 0, .string ByteArray.empty, .int .i64 0, .slice none 0 0] 39) := ⟨_, rfl⟩
 rw [← hz_] at Zb2 Zv7 Zv10 Zv12 ee ew en1 eo ⊢
 clear hz_
 obtain ⟨g22, hg_g22⟩ : ∃ g_, g_ = z19.heap.size := ⟨_, rfl⟩
 have n_g22_Zb2 : g2 < g22 := by rw [hg_g22]; exact lZb2
 have n_g22_Zv7 : g10 < g22 := by rw [hg_g22]; exact lZv7
 have n_g22_Zv10 : g20 < g22 := by rw [hg_g22]; exact lZv10
 have hB_g22 : w.heap.size ≤ g22 := by rw [hg_g22]; exact sz_g22
 have hB_g22_ew : z5.heap.size ≤ g22 := by rw [hg_g22]; exact sz_g22_ew
 have hB_g22_en1 : z6.heap.size ≤ g22 := by rw [hg_g22]; exact sz_g22_en1
 have hB_g22_eo : z12.heap.size ≤ g22 := by rw [hg_g22]; exact sz_g22_eo
 rw [← hg_g22] at Zv12 ⊢
 clear hg_g22 lZb2 lZv7 lZv10
 refine wpList_store_row rfl 39 _ _ rfl (g22) (n3.cells).toArray rfl rfl 39 _ Zv12 sizeMs (by rfl) (Ms.one _) ?_
 have N_ := setRow_heap z20 (g22) _ (n3.cells).toArray _ _ Zv12
 have ee := belowSet (cs := (n3.cells).toArray) ee Zv12 (by omega)
 have ew := belowSet (cs := (n3.cells).toArray) ew Zv12 (by omega)
 have en1 := belowSet (cs := (n3.cells).toArray) en1 Zv12 (by omega)
 have eo := belowSet (cs := (n3.cells).toArray) eo Zv12 (by omega)
 have Zb2 := hpR Zb2 (g' := g22) (by omega) (n3.cells).toArray
 have Zv7 := hpR Zv7 (g' := g22) (by omega) (n3.cells).toArray
 have Zv10 := hpR Zv10 (g' := g22) (by omega) (n3.cells).toArray
 clear Zv12
 have Zv12 := N_
 clear N_
 obtain ⟨z21, hz_⟩ : ∃ z_ : World, z_ = z20.setRow (g22) (n3.cells).toArray := ⟨_, rfl⟩
 rw [← hz_] at Zb2 Zv7 Zv10 Zv12 ee ew en1 eo ⊢
 clear hz_
 try simp only [nP, nN, nA, n0, nS]
 with_reducible refine wv (.int .i64 2) ?_
 try simp only [nP, nN, nA, n0, nS]
 refine wpList_nil ?_
 refine hK21 _ _ ?_
 refine wp_seq_k fun K23 hK23 => ?_
 refine wp_region_lit ?_
 with_reducible refine wv (.int .i64 2) ?_
 try simp only [nP, nN, nA, n0, nS]
 with_reducible refine wb (.bool true) (.int .i64 2) (.int .i64 2) 36 (run_eqlI (show (decide (2 = 2)) = true from by decide)) ?_
 try simp only [nP, nN, nA, n0, nS]
 with_reducible refine wv (.bool true) ?_
 try simp only [nP, nN, nA, n0, nS]
 with_reducible refine wv (.int .i64 2) ?_
 try simp only [nP, nN, nA, n0, nS]
 with_reducible refine wb (.bool true) (.int .i64 2) (.int .i64 2) 36 (run_eqlI (show (decide (2 = 2)) = true from by decide)) ?_
 try simp only [nP, nN, nA, n0, nS]
 with_reducible refine wv (.bool true) ?_
 try simp only [nP, nN, nA, n0, nS]
 with_reducible refine wv (.bool true) ?_
 try simp only [nP, nN, nA, n0, nS]
 refine wpList_nil ?_
 refine hK23 _ _ ?_
 refine wp_ret ?_
 exact bodyPost_ret (v := .bool true) (by kernel_rfl) rfl ⟨rfl, ee⟩
theorem messageBack_walk (W : World) (hT : Tabs W) (v0 v1 : Value) (h0 : Arg W 39 v0) (h1 : Arg W 5 v1) :
  Calls Tryd.prog 9 #[v0, v1] W fun e W' => e = .returned (.bool true) ∧ Below W.heap.size W W' := by
 obtain ⟨m, rfl, ok⟩ := h0.ms
 obtain ⟨x, rfl, hx⟩ := h1.u8 Tryd.underlying5
 have e : (x : Int) = ((UInt8.ofNat x).toNat : Int) := by rw [UInt8.toNat_ofNat']; omega
 rw [e]
 exact mback_any m (UInt8.ofNat x) W ok hT
end Go.Proofs.YtjofjpmhokjhnaaDoor
