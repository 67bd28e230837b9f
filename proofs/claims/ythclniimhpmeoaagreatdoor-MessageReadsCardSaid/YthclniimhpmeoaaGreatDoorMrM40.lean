import Derived.Test.YthclniimhpmeoaaGreatDoorMrM38
import Derived.Test.YthclniimhpmeoaaGreatDoorMrM39
set_option maxHeartbeats 12800000
set_option maxRecDepth 20001
set_option linter.unusedSimpArgs false
set_option linter.unusedVariables false
namespace Go.Proofs.YthclniimhpmeoaaGreatDoor
set_option maxRecDepth 20000
section
open Go.RowKit T
theorem RefAt.marks {w : World} {B g : Nat} {l : List UInt8} {f : Bool} (h : RefAt w B g (l, f)) (b : Bool) : RefAt (w.setCell ⟨g, 2, none⟩ (.bool b)) B g (l, b) := by
 obtain ⟨A, c, full, at_, hb, h1, h2, h3, hr, hB, hl⟩ := h;exact ⟨A, c, full, at_, setAt hb 2 _, h1, h2, h3, hr.grownOther (grownSet w g 2 _) hB, hB, hl⟩
theorem rtakec_fresh (B g : Nat) (w : World) (s : C.St) (h : RefAt w B g s) :
 Calls Tryz.prog 46 #[.pointer (some ⟨g, 0, none⟩)] w fun e w' => (∃ y : Cm, e = .returned (.agg y.cells.toArray) ∧ SameC y (rctake s).1 = true ∧ ∀ z : World, (∀ i, w.heap.size ≤ i → i < w'.heap.size → z.heap[i]? = w'.heap[i]?) → CmOk z z.heap.size y) ∧ RefAt w' B g (rctake s).2 ∧ w.grownBy w' (some g) := by
 obtain ⟨R, hR⟩ : ∃ R, R = rctake s := ⟨_, rfl⟩
 have HU : Hid (R = bif (rctake0 s).2.2 || !(rctake0 s).1.formed then (Cm.zero, ((rctake0 s).2.1, true)) else rctake0 s) := by
  show _ = _;rw [hR]; rfl
 rw [← hR];clear hR;have hx := take_bound 1 s (by omega);have T1 := Lib.hid (fun z (hz : RefAt z B g s) => rtake_any B g 1 s z hz)
 have HC0 : Hid (rctake0 s = (if (C.take 1 s).1 = 1 then (Cm.of 1 (rttake (C.take 1 s).2).1.1.1 (rttake (C.take 1 s).2).1.1.2 (rttake (C.take 1 s).2).1.2.1 (rttake (C.take 1 s).2).1.2.2 0 0 0 0 false, (rttake (C.take 1 s).2).2)
  else if (C.take 1 s).1 = 2 then (Cm.of 2 0 0 [] [] (idtake (C.take 1 s).2).1.1 (idtake (C.take 1 s).2).1.2 (C.take 1 (idtake (C.take 1 s).2).2).1 (C.take 8 (C.take 1 (idtake (C.take 1 s).2).2).2).1 false, (C.take 8 (C.take 1 (idtake (C.take 1 s).2).2).2).2)
  else if (C.take 1 s).1 = 3 then (Cm.of 3 0 0 [] [] (idtake (C.take 1 s).2).1.1 (idtake (C.take 1 s).2).1.2 (C.take 1 (idtake (C.take 1 s).2).2).1 0 (decide ((C.take 1 (C.take 1 (idtake (C.take 1 s).2).2).2).1 = 1)), ((C.take 1 (C.take 1 (idtake (C.take 1 s).2).2).2).2.1, (C.take 1 (C.take 1 (idtake (C.take 1 s).2).2).2).2.2 || decide (1 < (C.take 1 (C.take 1 (idtake (C.take 1 s).2).2).2).1)))
  else (Cm.of (C.take 1 s).1 0 0 [] [] 0 0 0 0 false, (C.take 1 s).2))) := rfl
 generalize C.take 1 s = r1 at hx HC0 T1;obtain ⟨x, s1⟩ := r1;simp only at hx HC0 T1;have hx := show x < 256 from hx;have kx : IntKind.i64.wrap (x : Int) = (x : Int) := wrapI (by omega);generalize rctake0 s = c0 at HU HC0;have hg : g < w.heap.size := h.lt.1;have hBg : B ≤ g := h.lt.2;have ee : w.grownBy w (some g) := ⟨rfl, rfl, rfl, Nat.le_refl _, fun _ _ _ => rfl⟩;have rr := h;clear h;have ee := grownAllocR ee (.cells #[.int .i64 0, .int .i64 0, .int .i64 0, .slice none 0 0, .slice none 0 0, .int .i64 0, .int .i64 0, .int .i64 0, .int .u64 0, .bool false] 45);have rr := RefAt.alloc rr (.cells #[.int .i64 0, .int .i64 0, .int .i64 0, .slice none 0 0, .slice none 0 0, .int .i64 0, .int .i64 0, .int .i64 0, .int .u64 0, .bool false] 45);have Zr := hpN w (.cells #[.int .i64 0, .int .i64 0, .int .i64 0, .slice none 0 0, .slice none 0 0, .int .i64 0, .int .i64 0, .int .i64 0, .int .u64 0, .bool false] 45) rfl
 go_enter Tryz.func46, Tryz.ntmps46
 go_upto_region 1 with fail
 generalize w.alloc (.cells #[.int .i64 0, .int .i64 0, .int .i64 0, .slice none 0 0, .slice none 0 0, .int .i64 0, .int .i64 0, .int .i64 0, .int .u64 0, .bool false] 45) = w0 at Zr ee rr ⊢;refine wp_region_lit ?_
 go_wp2_with fail
 refine (T1.out w0 rr).mono ?_;rintro e z1 ⟨rfl, rr, t⟩;have Zr := heapG Zr t (by omega);have ee := grownTrans ee t;clear t;clear T1
 dsimp only
 rename_i hK
 refine hK _ _ ?_;clear hK;(iterate 9 go_step);have lZr := (Array.getElem?_eq_some_iff.1 Zr).1;have sz1 := ee.size;have Zr := hpA Zr (.cells #[.int .i64 0, .int .i64 0, .int .i64 0, .slice none 0 0, .slice none 0 0, .int .i64 0, .int .i64 0, .int .i64 0, .int .u64 0, .bool false] 45);have ee := grownAllocR ee (.cells #[.int .i64 0, .int .i64 0, .int .i64 0, .slice none 0 0, .slice none 0 0, .int .i64 0, .int .i64 0, .int .i64 0, .int .u64 0, .bool false] 45);have rr := RefAt.alloc rr (.cells #[.int .i64 0, .int .i64 0, .int .i64 0, .slice none 0 0, .slice none 0 0, .int .i64 0, .int .i64 0, .int .i64 0, .int .u64 0, .bool false] 45);have Zt := hpN z1 (.cells #[.int .i64 0, .int .i64 0, .int .i64 0, .slice none 0 0, .slice none 0 0, .int .i64 0, .int .i64 0, .int .i64 0, .int .u64 0, .bool false] 45) rfl;generalize z1.alloc (.cells #[.int .i64 0, .int .i64 0, .int .i64 0, .slice none 0 0, .slice none 0 0, .int .i64 0, .int .i64 0, .int .i64 0, .int .u64 0, .bool false] 45) = z2 at Zr Zt ee rr ⊢
 iterate 27 (first | with_reducible refine isStore (ty := 45) rfl ?_ | go_step)
 refine wpList_store_row rfl 45 _ _ rfl (z1.heap.size) ((T.Cm.of (x : Int) 0 0 [] [] 0 0 0 0 false).cells).toArray rfl rfl 45 _ Zt sizeRCm (by rfl) (Cm.one _) ?_;have N_ := setRow_heap z2 (z1.heap.size) _ ((T.Cm.of (x : Int) 0 0 [] [] 0 0 0 0 false).cells).toArray _ _ Zt;have ee := grownRowNew (cs := ((T.Cm.of (x : Int) 0 0 [] [] 0 0 0 0 false).cells).toArray) ee (show w.heap.size ≤ z1.heap.size by omega) Zt;have rr := RefAt.row (cs := ((T.Cm.of (x : Int) 0 0 [] [] 0 0 0 0 false).cells).toArray) rr (show z1.heap.size ≠ g by omega) (by omega);have Zr := hpR Zr (g' := z1.heap.size) (by omega) ((T.Cm.of (x : Int) 0 0 [] [] 0 0 0 0 false).cells).toArray;clear Zt;have Zt := N_;clear N_;generalize z2.setRow (z1.heap.size) ((T.Cm.of (x : Int) 0 0 [] [] 0 0 0 0 false).cells).toArray = z3 at Zr Zt ee rr ⊢;obtain ⟨gt, hgt⟩ : ∃ g_, g_ = z1.heap.size := ⟨_, rfl⟩;(have lgt : w.heap.size < gt := by rw [hgt]; exact lZr);rw [← hgt] at Zt ⊢;clear hgt kx;have x0 := rowCell Zt 0 (v := .int .i64 (x : Int)) rfl
 rename_i KB hKB _ _ _ _ _ _ _ _ _ _
 refine wpList_nil (hKB _ _ ?_);simp only [Act.put];refine wp_tail2 4 (by rfl) fun KT hKT gKT => ?_
 have hjT : ∀ (u4 u5 u6 u7 u8 u9 u10 u11 u12 u13 u14 u15 u16 u17 u18 u19 u20 u21 u22 u23 u24 u25 u26 u27 u28 u29 u30 u31 u32 u33 u34 u35 u36 u37 u38 u39 u40 u41 u42 u43 u44 u45 u46 u47 u48 u49 u50 u51 u52 u53 u54 : Value) (z : World) (y : Cm), SameC y c0.1 = true → Hid (∀ z' : World, (∀ i, gt < i → i < z.heap.size → z'.heap[i]? = z.heap[i]?) → CmOk z' z'.heap.size y) → z.heap[gt]? = some (.cells y.cells.toArray 45 (0, 0)) → z.heap[w.heap.size]? = some (.cells #[.int .i64 0, .int .i64 0, .int .i64 0, .slice none 0 0, .slice none 0 0, .int .i64 0, .int .i64 0, .int .i64 0, .int .u64 0, .bool false] 45 (0, 0)) → w.grownBy z (some g) → RefAt z B g c0.2 → KT ⟨#[.pointer (some ⟨g, 0, none⟩), undef, .pointer (some ⟨w.heap.size, 0, none⟩), .pointer (some ⟨gt, 0, none⟩), u4, u5, u6, u7, u8, u9, u10, u11, u12, u13, u14, u15, u16, u17, u18, u19, u20, u21, u22, u23, u24, u25, u26, u27, u28, u29, u30, u31, u32, u33, u34, u35, u36, u37, u38, u39, u40, u41, u42, u43, u44, u45, u46, u47, u48, u49, u50, u51, u52, u53, u54, undef, undef, undef, undef, undef, undef, undef, undef, undef, undef, undef, undef, undef, undef], []⟩ z := by
  clear Zt Zr ee rr x0;intro u4 u5 u6 u7 u8 u9 u10 u11 u12 u13 u14 u15 u16 u17 u18 u19 u20 u21 u22 u23 u24 u25 u26 u27 u28 u29 u30 u31 u32 u33 u34 u35 u36 u37 u38 u39 u40 u41 u42 u43 u44 u45 u46 u47 u48 u49 u50 u51 u52 u53 u54 z9 y hsy HK Zt Zr ee rr;refine hKT _ _ (fun K1 K2 hK1 hK2 => ?_);clear hKT gKT;have okx := HK.out z9 (fun i _ _ => rfl);have HFE : c0.1.formed = y.formed := (SameC.formed hsy).symm;rw [HFE] at HU;have HFM : Hid (∀ z, Below z9.heap.size z9 z → Calls Tryz.prog 51 #[.agg y.cells.toArray] z fun e w' => e = .returned (.bool y.formed) ∧ Below z.heap.size z w') := fun z hz => rcformed_any y.k y.s y.q y.rs y.ws y.A1 y.c1 y.A2 y.c2 y.i y.j y.g y.st y.y z z9.heap.size hz.size (okx.below hz (Nat.le_refl _));generalize y.formed = fm at HU HFM;obtain ⟨cm, ls, f⟩ := c0;simp only at HU hsy rr;clear okx HFE;have cc := RefAt.cell rr;simp only at cc
  go_upto_region 13 with fail
  cases f with
  | true =>
    have HR : Hid (R = (Cm.zero, (ls, true))) := HU.out;clear HU HFM
    go_upto_region 14 with fail
    clear cc;clear HK;have fr_ := RefAt.free rr;have cc_ := RefAt.cell rr
    go_upto_region 15 with fail
    clear fr_ cc_;have Zr := hpS Zr (p := ⟨g, 2, none⟩) (by show _ ≠ g; omega) (.bool true);have Zt := hpS Zt (p := ⟨g, 2, none⟩) (by show _ ≠ g; omega) (.bool true);have rr := RefAt.fails rr;have ee := grownFail ee (.bool true);generalize z9.setCell ⟨g, 2, none⟩ (.bool true) = z4 at Zr Zt ee rr ⊢;refine wp_region_lit ?_
    iterate 27 (first | with_reducible refine isStore (ty := 45) rfl ?_ | go_step)
    refine wpList_store_row rfl 45 _ _ rfl (w.heap.size) (Cm.zero.cells).toArray rfl rfl 45 _ Zr sizeRCm (by rfl) (Cm.one _) ?_;have N_ := setRow_heap z4 (w.heap.size) _ (Cm.zero.cells).toArray _ _ Zr;have ee := grownRowNew (cs := (Cm.zero.cells).toArray) ee (show w.heap.size ≤ w.heap.size by omega) Zr;have rr := RefAt.row (cs := (Cm.zero.cells).toArray) rr (show w.heap.size ≠ g by omega) (by omega);have Zt := hpR Zt (g' := w.heap.size) (by omega) (Cm.zero.cells).toArray;clear Zr;have Zr := N_;clear N_;generalize z4.setRow (w.heap.size) (Cm.zero.cells).toArray = z5 at Zr Zt ee rr ⊢
    go_wp2_with fail
    refine bodyPost_ret (v := .agg Cm.zero.cells.toArray) (results_cell_row rfl _ _ (w.heap.size) 45 _ (0, 0) _ rfl Zr Tryz.underlying45 rfl sizeRCm) rfl ⟨⟨Cm.zero, rfl, by rw [HR.out]; exact SameC.refl _, fun _ _ => CmOk.zero⟩, by rw [HR.out]; exact rr, ee⟩
  | false =>
    refine wp_region_lit ?_
    iterate 27 (first | with_reducible refine isLoad (ty := 45) rfl ?_ | go_step)
    refine wpList_load_g (by rfl) 45 _ rfl (gt) 0 rfl (y.cells) _ (rowAt Zt) Tryz.underlying45 rfl sizeRCm ?_;clear cc
    go_wp2_with fail
    refine (HFM.out _ (Below.refl _ _)).mono ?_;rintro e z4 ⟨rfl, t⟩;have HK : Hid (∀ z : World, (∀ i, gt < i → i < z4.heap.size → z.heap[i]? = z4.heap[i]?) → CmOk z z.heap.size y) := fun z hz => HK.out z (fun i h1 h2 => (hz i h1 (Nat.lt_of_lt_of_le h2 t.size)).trans (t.block i h2));have Zr := hpB Zr t;have Zt := hpB Zt t;have ee := grownBelow ee t;have rr := RefAt.below rr t;clear t
    cases fm with
    | false =>
      have HR : Hid (R = (Cm.zero, (ls, true))) := HU.out;clear HU HFM
      go_upto_region 14 with fail
      clear HK;have fr_ := RefAt.free rr;have cc_ := RefAt.cell rr
      go_upto_region 15 with fail
      clear fr_ cc_;have Zr := hpS Zr (p := ⟨g, 2, none⟩) (by show _ ≠ g; omega) (.bool true);have Zt := hpS Zt (p := ⟨g, 2, none⟩) (by show _ ≠ g; omega) (.bool true);have rr := RefAt.fails rr;have ee := grownFail ee (.bool true);generalize z4.setCell ⟨g, 2, none⟩ (.bool true) = z5 at Zr Zt ee rr ⊢;refine wp_region_lit ?_
      iterate 27 (first | with_reducible refine isStore (ty := 45) rfl ?_ | go_step)
      refine wpList_store_row rfl 45 _ _ rfl (w.heap.size) (Cm.zero.cells).toArray rfl rfl 45 _ Zr sizeRCm (by rfl) (Cm.one _) ?_;have N_ := setRow_heap z5 (w.heap.size) _ (Cm.zero.cells).toArray _ _ Zr;have ee := grownRowNew (cs := (Cm.zero.cells).toArray) ee (show w.heap.size ≤ w.heap.size by omega) Zr;have rr := RefAt.row (cs := (Cm.zero.cells).toArray) rr (show w.heap.size ≠ g by omega) (by omega);have Zt := hpR Zt (g' := w.heap.size) (by omega) (Cm.zero.cells).toArray;clear Zr;have Zr := N_;clear N_;generalize z5.setRow (w.heap.size) (Cm.zero.cells).toArray = z6 at Zr Zt ee rr ⊢
      go_wp2_with fail
      refine bodyPost_ret (v := .agg Cm.zero.cells.toArray) (results_cell_row rfl _ _ (w.heap.size) 45 _ (0, 0) _ rfl Zr Tryz.underlying45 rfl sizeRCm) rfl ⟨⟨Cm.zero, rfl, by rw [HR.out]; exact SameC.refl _, fun _ _ => CmOk.zero⟩, by rw [HR.out]; exact rr, ee⟩
    | true =>
      have HR : Hid (R = (cm, (ls, false))) := HU.out;clear HU HFM
      go_upto_region 16 with fail
      refine wp_region_lit ?_
      iterate 27 (first | with_reducible refine isLoad (ty := 45) rfl ?_ | go_step)
      refine wpList_load_mid rfl 45 _ rfl (gt) 0 rfl (y.cells) _ (rowAt Zt) Tryz.underlying45 rfl sizeRCm ?_;have HK2 : Hid (∀ z : World, (∀ i, w.heap.size ≤ i → i < (z4.setRow w.heap.size y.cells.toArray).heap.size → z.heap[i]? = (z4.setRow w.heap.size y.cells.toArray).heap[i]?) → CmOk z z.heap.size y) := fun z hz => HK.out z (fun i h1 h2 => (hz i (by omega) (by rw [setRow_size]; exact h2)).trans (setRow_other z4 w.heap.size i _ (by omega)))
      iterate 27 (first | with_reducible refine isStore (ty := 45) rfl ?_ | go_step)
      refine wpList_store_row rfl 45 _ _ rfl (w.heap.size) y.cells.toArray rfl rfl 45 _ Zr sizeRCm (by rfl) (Cm.one _) ?_;have N_ := setRow_heap z4 (w.heap.size) _ y.cells.toArray _ _ Zr;have ee := grownRowNew (cs := y.cells.toArray) ee (show w.heap.size ≤ w.heap.size by omega) Zr;have rr := RefAt.row (cs := y.cells.toArray) rr (show w.heap.size ≠ g by omega) (by omega);have Zt := hpR Zt (g' := w.heap.size) (by omega) y.cells.toArray;clear Zr;have Zr := N_;clear N_;generalize z4.setRow (w.heap.size) (y.cells).toArray = z5 at Zr Zt HK2 ee rr ⊢
      go_wp2_with fail
      refine bodyPost_ret (v := .agg y.cells.toArray) (results_cell_row rfl _ _ (w.heap.size) 45 _ (0, 0) _ rfl Zr Tryz.underlying45 rfl sizeRCm) rfl ⟨⟨y, rfl, by rw [HR.out]; exact hsy, HK2.out⟩, by rw [HR.out]; exact rr, ee⟩
 have HC := HC0;clear HC0
 by_cases h1 : x = 1
 ·subst h1;have HC2 : Hid (c0 = (Cm.of 1 (rttake s1).1.1.1 (rttake s1).1.1.2 (rttake s1).1.2.1 (rttake s1).1.2.2 0 0 0 0 false, (rttake s1).2)) := HC.out;clear HC;have T2 := Lib.hid (fun z (hz : RefAt z B g s1) => rttake_any B g z s1 hz);generalize rttake s1 = tr at HC2 T2;obtain ⟨⟨⟨ts, tq⟩, trs, tws⟩, t2⟩ := tr;simp only at HC2 T2
  go_upto_region 3 with fail
  clear x0;refine wp_region_lit ?_;have lgz := (Array.getElem?_eq_some_iff.1 Zt).1
  go_wp2_with fail
  refine (T2.out z3 rr).mono ?_;rintro e z4 ⟨⟨A1, c1, A2, c2, rfl, okt⟩, rr, t⟩;have Zr := heapG Zr t (by omega);have Zt := heapG Zt t (by omega);have ee := grownTrans ee t;clear t
  dsimp only
  rename_i hK
  refine hK _ _ ?_;clear hK;have okt : Hid (∀ z : World, (∀ i, gt < i → i < z4.heap.size → z.heap[i]? = z4.heap[i]?) → TxOk z z.heap.size trs tws A1 c1 A2 c2) := fun z hz => okt z (fun i h1 h2 => hz i (by omega) h2);clear T2 lgz
  iterate 27 (first | with_reducible refine isStore (ty := 30) rfl ?_ | go_step)
  refine wpList_store_mid rfl 30 _ _ rfl (gt) 1 ([.int .i64 (ts : Int), .int .i64 (tq : Int), .slice A1 trs.length c1, .slice A2 tws.length c2]).toArray rfl rfl (rowThere Zt (by simp [T.Cm.cells])) sizeTx (by simp [Value.oneCell']) ?_;have N_ : (z4.setCells (gt) 1 ([.int .i64 (ts : Int), .int .i64 (tq : Int), .slice A1 trs.length c1, .slice A2 tws.length c2])).heap[gt]? = some (.cells (T.Cm.cells (T.Cm.mk 1 (ts : Int) (tq : Int) trs tws A1 c1 A2 c2 0 0 0 0 false)).toArray 45) := hpC ([.int .i64 (ts : Int), .int .i64 (tq : Int), .slice A1 trs.length c1, .slice A2 tws.length c2]) 1 _ z4 Zt;have Zr := hpCo (g' := gt) (by omega) ([.int .i64 (ts : Int), .int .i64 (tq : Int), .slice A1 trs.length c1, .slice A2 tws.length c2]) 1 z4 Zr;have ee := grownSetN (show w.heap.size ≤ gt by omega) ([.int .i64 (ts : Int), .int .i64 (tq : Int), .slice A1 trs.length c1, .slice A2 tws.length c2]) 1 z4 ee;have rr := RefAt.setN (show gt ≠ g by omega) (show B ≤ gt by omega) ([.int .i64 (ts : Int), .int .i64 (tq : Int), .slice A1 trs.length c1, .slice A2 tws.length c2]) 1 z4 rr;clear Zt;have Zt := N_;clear N_;have okt : Hid (∀ z : World, (∀ i, gt < i → i < (z4.setCells (gt) 1 ([.int .i64 (ts : Int), .int .i64 (tq : Int), .slice A1 trs.length c1, .slice A2 tws.length c2])).heap.size → z.heap[i]? = (z4.setCells (gt) 1 ([.int .i64 (ts : Int), .int .i64 (tq : Int), .slice A1 trs.length c1, .slice A2 tws.length c2])).heap[i]?) → TxOk z z.heap.size trs tws A1 c1 A2 c2) := fun z hz => okt.out z (fun i h1 h2 => (hz i h1 (by rw [setCells_size]; exact h2)).trans (setCells_heap (by omega) _ _ _));change wpList _ _ _ _ _ (z4.setCells (gt) 1 ([.int .i64 (ts : Int), .int .i64 (tq : Int), .slice A1 trs.length c1, .slice A2 tws.length c2]));generalize z4.setCells (gt) 1 ([.int .i64 (ts : Int), .int .i64 (tq : Int), .slice A1 trs.length c1, .slice A2 tws.length c2]) = z5 at Zr Zt okt ee rr ⊢;(have HR1 : c0.2 = t2 := by rw [HC2.out]);(have rr : RefAt z5 B g c0.2 := by rw [HR1]; exact rr);have x0 := rowCell Zt 0 (v := .int .i64 1) rfl
  go_upto_region 13 with fail
  clear x0;exact gKT _ _ (hjT _ _ _ _ _ _ _ _ _ _ _ _ _ _ _ _ _ _ _ _ _ _ _ _ _ _ _ _ _ _ _ _ _ _ _ _ _ _ _ _ _ _ _ _ _ _ _ _ _ _ _ _ (T.Cm.mk 1 (ts : Int) (tq : Int) trs tws A1 c1 A2 c2 0 0 0 0 false) (by rw [HC2.out]; exact (SameC_iff _ _).2 ⟨rfl, rfl, rfl, rfl, rfl, rfl, rfl, rfl, rfl, rfl⟩) (fun z hz => (okt.out z hz)) Zt Zr ee rr) _ _ (by assumption) (by assumption)
 ·have f1 : ((x : Int) == 1) = false := by rw [beq_eq_false_iff_ne]; omega
  by_cases h2 : x = 2
  ·subst h2;have HC2 : Hid (c0 = (Cm.of 2 0 0 [] [] (idtake s1).1.1 (idtake s1).1.2 (C.take 1 (idtake s1).2).1 (C.take 8 (C.take 1 (idtake s1).2).2).1 false, (C.take 8 (C.take 1 (idtake s1).2).2).2)) := HC.out;clear HC f1 h1;have b1 := take_bound 1 (idtake s1).2 (by omega);have T2 := Lib.hid (fun z (hz : RefAt z B g s1) => rtakeid_any B g z s1 hz);generalize idtake s1 = tr at HC2 T2 b1;obtain ⟨⟨ti, tj⟩, t2⟩ := tr;simp only at HC2 T2 b1;have T3 := Lib.hid (fun z (hz : RefAt z B g t2) => rtake_any B g 1 t2 z hz);generalize C.take 1 t2 = tr at HC2 T3 b1;obtain ⟨tg, t3⟩ := tr;simp only at HC2 T3 b1;have b1 := show tg < 256 from b1;have kg : IntKind.i64.wrap (tg : Int) = (tg : Int) := wrapI (by omega);have T4 := Lib.hid (fun z (hz : RefAt z B g t3) => rtake_any B g 8 t3 z hz);generalize C.take 8 t3 = tr at HC2 T4;obtain ⟨ts, t4⟩ := tr;simp only at HC2 T4
   go_upto_region 5 with fail
   clear x0;refine wp_region_lit ?_
   go_wp2_with fail
   refine (T2.out z3 rr).mono ?_;rintro e z4 ⟨rfl, rr, t⟩;have Zr := heapG Zr t (by omega);have Zt := heapG Zt t (by omega);have ee := grownTrans ee t;clear t
   dsimp only
   rename_i hK
   refine hK _ _ ?_;clear hK
   iterate 27 (first | with_reducible refine isStore (ty := 26) rfl ?_ | go_step)
   refine wpList_store_mid rfl 26 _ _ rfl (gt) 5 ([.int .i64 (ti : Int), .int .i64 (tj : Int)]).toArray rfl rfl (rowThere Zt (by simp [T.Cm.cells])) sizeId (by simp [Value.oneCell']) ?_;have N_ : (z4.setCells (gt) 5 ([.int .i64 (ti : Int), .int .i64 (tj : Int)])).heap[gt]? = some (.cells (T.Cm.cells (T.Cm.of 2 0 0 [] [] (ti : Int) (tj : Int) 0 0 false)).toArray 45) := hpC ([.int .i64 (ti : Int), .int .i64 (tj : Int)]) 5 _ z4 Zt;have Zr := hpCo (g' := gt) (by omega) ([.int .i64 (ti : Int), .int .i64 (tj : Int)]) 5 z4 Zr;have ee := grownSetN (show w.heap.size ≤ gt by omega) ([.int .i64 (ti : Int), .int .i64 (tj : Int)]) 5 z4 ee;have rr := RefAt.setN (show gt ≠ g by omega) (show B ≤ gt by omega) ([.int .i64 (ti : Int), .int .i64 (tj : Int)]) 5 z4 rr;clear Zt;have Zt := N_;clear N_;change wpList _ _ _ _ _ (z4.setCells (gt) 5 ([.int .i64 (ti : Int), .int .i64 (tj : Int)]));generalize z4.setCells (gt) 5 ([.int .i64 (ti : Int), .int .i64 (tj : Int)]) = z5 at Zr Zt ee rr ⊢
   go_upto_region 6 with fail
   refine wp_region_lit ?_
   go_wp2_with fail
   refine (T3.out z5 rr).mono ?_;rintro e z6 ⟨rfl, rr, t⟩;have Zr := heapG Zr t (by omega);have Zt := heapG Zt t (by omega);have ee := grownTrans ee t;clear t
   dsimp only
   rename_i hK
   refine hK _ _ ?_;clear hK
   iterate 27 (first | with_reducible refine isStore (ty := 3) rfl ?_ | go_step)
   have f_ : z6.frozen? ⟨gt, 7, none⟩ = false := freeAt Zt 7;have c_ := rowCell Zt 7 rfl;(iterate 3 go_step);clear f_ c_;have N_ : (z6.setCells (gt) 7 ([.int .i64 (tg : Int)])).heap[gt]? = some (.cells (T.Cm.cells (T.Cm.of 2 0 0 [] [] (ti : Int) (tj : Int) (tg : Int) 0 false)).toArray 45) := hpC ([.int .i64 (tg : Int)]) 7 _ z6 Zt;have Zr := hpCo (g' := gt) (by omega) ([.int .i64 (tg : Int)]) 7 z6 Zr;have ee := grownSetN (show w.heap.size ≤ gt by omega) ([.int .i64 (tg : Int)]) 7 z6 ee;have rr := RefAt.setN (show gt ≠ g by omega) (show B ≤ gt by omega) ([.int .i64 (tg : Int)]) 7 z6 rr;clear Zt;have Zt := N_;clear N_;change wpList _ _ _ _ _ (z6.setCells (gt) 7 [.int .i64 (tg : Int)]);generalize z6.setCells (gt) 7 [.int .i64 (tg : Int)] = z7 at Zr Zt ee rr ⊢;have x0 := rowCell Zt 0 (v := .int .i64 2) rfl
   go_upto_region 8 with fail
   clear x0;refine wp_region_lit ?_
   go_wp2_with fail
   refine (T4.out z7 rr).mono ?_;rintro e z8 ⟨rfl, rr, t⟩;have Zr := heapG Zr t (by omega);have Zt := heapG Zt t (by omega);have ee := grownTrans ee t;clear t
   dsimp only
   rename_i hK
   refine hK _ _ ?_;clear hK;clear T2 T3 T4 kg
   iterate 27 (first | with_reducible refine isStore (ty := 31) rfl ?_ | go_step)
   have f_ : z8.frozen? ⟨gt, 8, none⟩ = false := freeAt Zt 8;have c_ := rowCell Zt 8 rfl;(iterate 3 go_step);clear f_ c_;have N_ : (z8.setCells (gt) 8 ([.int .u64 (ts : Int)])).heap[gt]? = some (.cells (T.Cm.cells (T.Cm.of 2 0 0 [] [] (ti : Int) (tj : Int) (tg : Int) ts false)).toArray 45) := hpC ([.int .u64 (ts : Int)]) 8 _ z8 Zt;have Zr := hpCo (g' := gt) (by omega) ([.int .u64 (ts : Int)]) 8 z8 Zr;have ee := grownSetN (show w.heap.size ≤ gt by omega) ([.int .u64 (ts : Int)]) 8 z8 ee;have rr := RefAt.setN (show gt ≠ g by omega) (show B ≤ gt by omega) ([.int .u64 (ts : Int)]) 8 z8 rr;clear Zt;have Zt := N_;clear N_;change wpList _ _ _ _ _ (z8.setCells (gt) 8 [.int .u64 (ts : Int)]);generalize z8.setCells (gt) 8 [.int .u64 (ts : Int)] = z9 at Zr Zt ee rr ⊢;(have HR1 : c0.2 = t4 := by rw [HC2.out]);(have rr : RefAt z9 B g c0.2 := by rw [HR1]; exact rr);have x0 := rowCell Zt 0 (v := .int .i64 2) rfl
   go_upto_region 13 with fail
   clear x0;exact gKT _ _ (hjT _ _ _ _ _ _ _ _ _ _ _ _ _ _ _ _ _ _ _ _ _ _ _ _ _ _ _ _ _ _ _ _ _ _ _ _ _ _ _ _ _ _ _ _ _ _ _ _ _ _ _ _ (T.Cm.of 2 0 0 [] [] (ti : Int) (tj : Int) (tg : Int) ts false) (by rw [HC2.out]; exact SameC.refl _) (fun z hz => CmOk.zero) Zt Zr ee rr) _ _ (by assumption) (by assumption)
  ·have f2 : ((x : Int) == 2) = false := by rw [beq_eq_false_iff_ne]; omega
   by_cases h3 : x = 3
   ·subst h3;have HC2 : Hid (c0 = (Cm.of 3 0 0 [] [] (idtake s1).1.1 (idtake s1).1.2 (C.take 1 (idtake s1).2).1 0 (decide ((C.take 1 (C.take 1 (idtake s1).2).2).1 = 1)), ((C.take 1 (C.take 1 (idtake s1).2).2).2.1, (C.take 1 (C.take 1 (idtake s1).2).2).2.2 || decide (1 < (C.take 1 (C.take 1 (idtake s1).2).2).1)))) := HC.out;clear HC f1 f2 h1 h2;have b1 := take_bound 1 (idtake s1).2 (by omega);have T2 := Lib.hid (fun z (hz : RefAt z B g s1) => rtakeid_any B g z s1 hz);generalize idtake s1 = tr at HC2 T2 b1;obtain ⟨⟨ti, tj⟩, t2⟩ := tr;simp only at HC2 T2 b1;have T3 := Lib.hid (fun z (hz : RefAt z B g t2) => rtake_any B g 1 t2 z hz);generalize C.take 1 t2 = tr at HC2 T3 b1;obtain ⟨tg, t3⟩ := tr;simp only at HC2 T3 b1;have b1 := show tg < 256 from b1;have kg : IntKind.i64.wrap (tg : Int) = (tg : Int) := wrapI (by omega);have T4 := Lib.hid (fun z (hz : RefAt z B g t3) => rtake_any B g 1 t3 z hz);generalize C.take 1 t3 = tr at HC2 T4;obtain ⟨ty, ls, tf⟩ := tr;simp only at HC2 T4
    go_upto_region 5 with fail
    clear x0;refine wp_region_lit ?_
    go_wp2_with fail
    refine (T2.out z3 rr).mono ?_;rintro e z4 ⟨rfl, rr, t⟩;have Zr := heapG Zr t (by omega);have Zt := heapG Zt t (by omega);have ee := grownTrans ee t;clear t
    dsimp only
    rename_i hK
    refine hK _ _ ?_;clear hK
    iterate 27 (first | with_reducible refine isStore (ty := 26) rfl ?_ | go_step)
    refine wpList_store_mid rfl 26 _ _ rfl (gt) 5 ([.int .i64 (ti : Int), .int .i64 (tj : Int)]).toArray rfl rfl (rowThere Zt (by simp [T.Cm.cells])) sizeId (by simp [Value.oneCell']) ?_;have N_ : (z4.setCells (gt) 5 ([.int .i64 (ti : Int), .int .i64 (tj : Int)])).heap[gt]? = some (.cells (T.Cm.cells (T.Cm.of 3 0 0 [] [] (ti : Int) (tj : Int) 0 0 false)).toArray 45) := hpC ([.int .i64 (ti : Int), .int .i64 (tj : Int)]) 5 _ z4 Zt;have Zr := hpCo (g' := gt) (by omega) ([.int .i64 (ti : Int), .int .i64 (tj : Int)]) 5 z4 Zr;have ee := grownSetN (show w.heap.size ≤ gt by omega) ([.int .i64 (ti : Int), .int .i64 (tj : Int)]) 5 z4 ee;have rr := RefAt.setN (show gt ≠ g by omega) (show B ≤ gt by omega) ([.int .i64 (ti : Int), .int .i64 (tj : Int)]) 5 z4 rr;clear Zt;have Zt := N_;clear N_;change wpList _ _ _ _ _ (z4.setCells (gt) 5 ([.int .i64 (ti : Int), .int .i64 (tj : Int)]));generalize z4.setCells (gt) 5 ([.int .i64 (ti : Int), .int .i64 (tj : Int)]) = z5 at Zr Zt ee rr ⊢
    go_upto_region 6 with fail
    refine wp_region_lit ?_
    go_wp2_with fail
    refine (T3.out z5 rr).mono ?_;rintro e z6 ⟨rfl, rr, t⟩;have Zr := heapG Zr t (by omega);have Zt := heapG Zt t (by omega);have ee := grownTrans ee t;clear t
    dsimp only
    rename_i hK
    refine hK _ _ ?_;clear hK;clear T2 T3
    iterate 27 (first | with_reducible refine isStore (ty := 3) rfl ?_ | go_step)
    have f_ : z6.frozen? ⟨gt, 7, none⟩ = false := freeAt Zt 7;have c_ := rowCell Zt 7 rfl;(iterate 3 go_step);clear f_ c_;have N_ : (z6.setCells (gt) 7 ([.int .i64 (tg : Int)])).heap[gt]? = some (.cells (T.Cm.cells (T.Cm.of 3 0 0 [] [] (ti : Int) (tj : Int) (tg : Int) 0 false)).toArray 45) := hpC ([.int .i64 (tg : Int)]) 7 _ z6 Zt;have Zr := hpCo (g' := gt) (by omega) ([.int .i64 (tg : Int)]) 7 z6 Zr;have ee := grownSetN (show w.heap.size ≤ gt by omega) ([.int .i64 (tg : Int)]) 7 z6 ee;have rr := RefAt.setN (show gt ≠ g by omega) (show B ≤ gt by omega) ([.int .i64 (tg : Int)]) 7 z6 rr;clear Zt;have Zt := N_;clear N_;change wpList _ _ _ _ _ (z6.setCells (gt) 7 [.int .i64 (tg : Int)]);generalize z6.setCells (gt) 7 [.int .i64 (tg : Int)] = z7 at Zr Zt ee rr ⊢;have x0 := rowCell Zt 0 (v := .int .i64 3) rfl
    go_upto_region 10 with fail
    clear x0
    go_wp2_with fail
    refine (T4.out z7 rr).mono ?_;rintro e z8 ⟨rfl, rr, t⟩;have Zr := heapG Zr t (by omega);have Zt := heapG Zt t (by omega);have ee := grownTrans ee t;clear t;clear T4 kg
    go_upto_region 11 with fail
    by_cases hy : ty = 1
    ·subst hy;have g1 : ((1 : Int) == 1) = true := rfl;have g2 : decide ((1 : Int) < (1 : Int)) = false := rfl;refine wp_region_lit ?_
     iterate 27 (first | with_reducible refine isStore (ty := 4) rfl ?_ | go_step)
     have f_ : z8.frozen? ⟨gt, 9, none⟩ = false := freeAt Zt 9;have c_ := rowCell Zt 9 rfl;(iterate 3 go_step);clear f_ c_;have N_ : (z8.setCells (gt) 9 ([.bool true])).heap[gt]? = some (.cells (T.Cm.cells (T.Cm.of 3 0 0 [] [] (ti : Int) (tj : Int) (tg : Int) 0 true)).toArray 45) := hpC ([.bool true]) 9 _ z8 Zt;have Zr := hpCo (g' := gt) (by omega) ([.bool true]) 9 z8 Zr;have ee := grownSetN (show w.heap.size ≤ gt by omega) ([.bool true]) 9 z8 ee;have rr := RefAt.setN (show gt ≠ g by omega) (show B ≤ gt by omega) ([.bool true]) 9 z8 rr;clear Zt;have Zt := N_;clear N_;change wpList _ _ _ _ _ (z8.setCells (gt) 9 [.bool true]);generalize z8.setCells (gt) 9 [.bool true] = z9 at Zr Zt ee rr ⊢;have x0 := rowCell Zt 0 (v := .int .i64 3) rfl
     go_upto_region 12 with fail
     clear x0
     cases tf with
     | true =>
       have fr_ := RefAt.free rr;have cc_ := RefAt.cell rr
       go_upto_region 13 with fail
       clear fr_ cc_;have Zr := hpS Zr (p := ⟨g, 2, none⟩) (by show _ ≠ g; omega) (.bool true);have Zt := hpS Zt (p := ⟨g, 2, none⟩) (by show _ ≠ g; omega) (.bool true);have rr := RefAt.marks rr true;have ee := grownFail ee (.bool true);generalize z9.setCell ⟨g, 2, none⟩ (.bool true) = z10 at Zr Zt ee rr ⊢;(have HR1 : c0.2 = (ls, true) := by rw [HC2.out]; rfl);(have rr : RefAt z10 B g c0.2 := by rw [HR1]; exact rr);exact gKT _ _ (hjT _ _ _ _ _ _ _ _ _ _ _ _ _ _ _ _ _ _ _ _ _ _ _ _ _ _ _ _ _ _ _ _ _ _ _ _ _ _ _ _ _ _ _ _ _ _ _ _ _ _ _ _ (T.Cm.of 3 0 0 [] [] (ti : Int) (tj : Int) (tg : Int) 0 true) (by rw [HC2.out]; exact SameC.refl _) (fun z hz => CmOk.zero) Zt Zr ee rr) _ _ (by assumption) (by assumption)
     | false =>
       have fr_ := RefAt.free rr;have cc_ := RefAt.cell rr
       go_upto_region 13 with fail
       clear fr_ cc_;have Zr := hpS Zr (p := ⟨g, 2, none⟩) (by show _ ≠ g; omega) (.bool false);have Zt := hpS Zt (p := ⟨g, 2, none⟩) (by show _ ≠ g; omega) (.bool false);have rr := RefAt.marks rr false;have ee := grownFail ee (.bool false);generalize z9.setCell ⟨g, 2, none⟩ (.bool false) = z10 at Zr Zt ee rr ⊢;(have HR1 : c0.2 = (ls, false) := by rw [HC2.out]; rfl);(have rr : RefAt z10 B g c0.2 := by rw [HR1]; exact rr);exact gKT _ _ (hjT _ _ _ _ _ _ _ _ _ _ _ _ _ _ _ _ _ _ _ _ _ _ _ _ _ _ _ _ _ _ _ _ _ _ _ _ _ _ _ _ _ _ _ _ _ _ _ _ _ _ _ _ (T.Cm.of 3 0 0 [] [] (ti : Int) (tj : Int) (tg : Int) 0 true) (by rw [HC2.out]; exact SameC.refl _) (fun z hz => CmOk.zero) Zt Zr ee rr) _ _ (by assumption) (by assumption)
    ·(have g1 : ((ty : Int) == 1) = false := by rw [beq_eq_false_iff_ne]; omega);refine wp_region_lit ?_
     iterate 27 (first | with_reducible refine isStore (ty := 4) rfl ?_ | go_step)
     have f_ : z8.frozen? ⟨gt, 9, none⟩ = false := freeAt Zt 9;have c_ := rowCell Zt 9 rfl;(iterate 3 go_step);clear f_ c_;have N_ : (z8.setCells (gt) 9 ([.bool false])).heap[gt]? = some (.cells (T.Cm.cells (T.Cm.of 3 0 0 [] [] (ti : Int) (tj : Int) (tg : Int) 0 false)).toArray 45) := hpC ([.bool false]) 9 _ z8 Zt;have Zr := hpCo (g' := gt) (by omega) ([.bool false]) 9 z8 Zr;have ee := grownSetN (show w.heap.size ≤ gt by omega) ([.bool false]) 9 z8 ee;have rr := RefAt.setN (show gt ≠ g by omega) (show B ≤ gt by omega) ([.bool false]) 9 z8 rr;clear Zt;have Zt := N_;clear N_;change wpList _ _ _ _ _ (z8.setCells (gt) 9 [.bool false]);generalize z8.setCells (gt) 9 [.bool false] = z9 at Zr Zt ee rr ⊢;have x0 := rowCell Zt 0 (v := .int .i64 3) rfl
     go_upto_region 12 with fail
     clear x0
     cases tf with
     | true =>
       have fr_ := RefAt.free rr;have cc_ := RefAt.cell rr
       go_upto_region 13 with fail
       clear fr_ cc_;have Zr := hpS Zr (p := ⟨g, 2, none⟩) (by show _ ≠ g; omega) (.bool true);have Zt := hpS Zt (p := ⟨g, 2, none⟩) (by show _ ≠ g; omega) (.bool true);have rr := RefAt.marks rr true;have ee := grownFail ee (.bool true);generalize z9.setCell ⟨g, 2, none⟩ (.bool true) = z10 at Zr Zt ee rr ⊢;(have HR1 : c0.2 = (ls, true) := by rw [HC2.out]; rfl);(have rr : RefAt z10 B g c0.2 := by rw [HR1]; exact rr);exact gKT _ _ (hjT _ _ _ _ _ _ _ _ _ _ _ _ _ _ _ _ _ _ _ _ _ _ _ _ _ _ _ _ _ _ _ _ _ _ _ _ _ _ _ _ _ _ _ _ _ _ _ _ _ _ _ _ (T.Cm.of 3 0 0 [] [] (ti : Int) (tj : Int) (tg : Int) 0 false) (by rw [HC2.out]; exact (SameC_iff _ _).2 ⟨rfl, rfl, rfl, rfl, rfl, rfl, rfl, rfl, rfl, (decide_eq_false hy).symm⟩) (fun z hz => CmOk.zero) Zt Zr ee rr) _ _ (by assumption) (by assumption)
     | false =>
       by_cases hy1 : 1 < ty
       ·(have g2 : decide ((1 : Int) < (ty : Int)) = true := by simp; omega);have fr_ := RefAt.free rr;have cc_ := RefAt.cell rr
        go_upto_region 13 with fail
        clear fr_ cc_;have Zr := hpS Zr (p := ⟨g, 2, none⟩) (by show _ ≠ g; omega) (.bool true);have Zt := hpS Zt (p := ⟨g, 2, none⟩) (by show _ ≠ g; omega) (.bool true);have rr := RefAt.marks rr true;have ee := grownFail ee (.bool true);generalize z9.setCell ⟨g, 2, none⟩ (.bool true) = z10 at Zr Zt ee rr ⊢;(have HR1 : c0.2 = (ls, true) := by rw [HC2.out]; simp [hy1]);(have rr : RefAt z10 B g c0.2 := by rw [HR1]; exact rr);exact gKT _ _ (hjT _ _ _ _ _ _ _ _ _ _ _ _ _ _ _ _ _ _ _ _ _ _ _ _ _ _ _ _ _ _ _ _ _ _ _ _ _ _ _ _ _ _ _ _ _ _ _ _ _ _ _ _ (T.Cm.of 3 0 0 [] [] (ti : Int) (tj : Int) (tg : Int) 0 false) (by rw [HC2.out]; exact (SameC_iff _ _).2 ⟨rfl, rfl, rfl, rfl, rfl, rfl, rfl, rfl, rfl, (decide_eq_false hy).symm⟩) (fun z hz => CmOk.zero) Zt Zr ee rr) _ _ (by assumption) (by assumption)
       ·(have g2 : decide ((1 : Int) < (ty : Int)) = false := by simp; omega);have fr_ := RefAt.free rr;have cc_ := RefAt.cell rr
        go_upto_region 13 with fail
        clear fr_ cc_;have Zr := hpS Zr (p := ⟨g, 2, none⟩) (by show _ ≠ g; omega) (.bool false);have Zt := hpS Zt (p := ⟨g, 2, none⟩) (by show _ ≠ g; omega) (.bool false);have rr := RefAt.marks rr false;have ee := grownFail ee (.bool false);generalize z9.setCell ⟨g, 2, none⟩ (.bool false) = z10 at Zr Zt ee rr ⊢;(have HR1 : c0.2 = (ls, false) := by rw [HC2.out]; simp [hy1]);(have rr : RefAt z10 B g c0.2 := by rw [HR1]; exact rr);exact gKT _ _ (hjT _ _ _ _ _ _ _ _ _ _ _ _ _ _ _ _ _ _ _ _ _ _ _ _ _ _ _ _ _ _ _ _ _ _ _ _ _ _ _ _ _ _ _ _ _ _ _ _ _ _ _ _ (T.Cm.of 3 0 0 [] [] (ti : Int) (tj : Int) (tg : Int) 0 false) (by rw [HC2.out]; exact (SameC_iff _ _).2 ⟨rfl, rfl, rfl, rfl, rfl, rfl, rfl, rfl, rfl, (decide_eq_false hy).symm⟩) (fun z hz => CmOk.zero) Zt Zr ee rr) _ _ (by assumption) (by assumption)
   ·(have f3 : ((x : Int) == 3) = false := by rw [beq_eq_false_iff_ne]; omega);(have HC2 : Hid (c0 = (Cm.of x 0 0 [] [] 0 0 0 0 false, s1)) := by show _ = _; rw [HC.out, if_neg h1, if_neg h2, if_neg h3]);(have HR1 : c0.2 = s1 := by rw [HC2.out]);(have rr : RefAt z3 B g c0.2 := by rw [HR1]; exact rr);clear h1 h2 h3 HC
    go_upto_region 13 with fail
    clear x0 f1 f2 f3;exact gKT _ _ (hjT _ _ _ _ _ _ _ _ _ _ _ _ _ _ _ _ _ _ _ _ _ _ _ _ _ _ _ _ _ _ _ _ _ _ _ _ _ _ _ _ _ _ _ _ _ _ _ _ _ _ _ _ (T.Cm.of (x : Int) 0 0 [] [] 0 0 0 0 false) (by rw [HC2.out]; exact SameC.refl _) (fun z hz => CmOk.zero) Zt Zr ee rr) _ _ (by assumption) (by assumption)
end
section
open Go.RowKit
theorem rbtake_any (B0 g : Nat) (s : C.St) (w : World) (h : RefAt w B0 g s) :
 Calls Tryz.prog 45 #[.pointer (some ⟨g, 0, none⟩)] w fun e w' => e = .returned (bal (B.take s).1.1 (B.take s).1.2) ∧ RefAt w' B0 g (B.take s).2 ∧ w.grownBy w' (some g) := by
 have l1 := take_lt 4 s (by omega);have l2 := take_lt 1 (C.take 4 s).2 (by omega);have HT : Hid (B.take s = if (C.take 1 (C.take 4 s).2).2.2 = true ∨ B.formed ((C.take 1 (C.take 4 s).2).1 : Int) = false then ((0, 0), ((C.take 1 (C.take 4 s).2).2.1, true)) else (((C.take 4 s).1, (C.take 1 (C.take 4 s).2).1), (C.take 1 (C.take 4 s).2).2)) := rfl;have T4 := rtake_any B0 g 4 s _ (h.alloc (.cells #[.int .u32 0, .int .i64 0] 44));obtain ⟨hlt, hB'⟩ := h.lt;have T1 := fun w1 => rtake_any B0 g 1 (C.take 4 s).2 w1;generalize C.take 4 s = t1 at *;obtain ⟨x1, s1⟩ := t1;simp only at *;generalize C.take 1 s1 = t2 at *;obtain ⟨x2, l2', f2⟩ := t2;simp only at *;have l1 : x1 < 4294967296 := l1;have l2 : x2 < 256 := l2
 have HW1 : Hid (IntKind.u32.wrap (x1 : Int) = (x1 : Int)) := by
  show _ = _;have e : IntKind.u32.wrap (x1 : Int) = (x1 : Int) % 4294967296 := rfl;rw [e]; omega
 have HW2 : Hid (IntKind.i64.wrap (x2 : Int) = (x2 : Int)) := by show _ = _; rw [IntKind.wrap_i64]; omega
 go_enter Tryz.func45, Tryz.ntmps45
 go_wp2_with fail
 refine T4.mono ?_;rintro e w1 ⟨rfl, h1, g1⟩
 go_wp2_with fail
 refine (T1 _ h1).mono ?_;rintro e w2 ⟨rfl, h2, g2⟩;(have hB : B0 ≤ w.heap.size := by omega);(have hne : w.heap.size ≠ g := by omega);have Z1 := heapG (heap_alloc_new w _) g1 hne;have Z2 := heapG Z1 g2 hne;have G2 := grownTrans (grownTrans (World.grownBy_alloc w _ (some g)) g1) g2;(have hs2 : w.heap.size + 1 ≤ w2.heap.size := by have a := g1.size; have b := g2.size; simp at a; omega);clear g1 g2 T1 T4 Z1 h1;have h3 := h2.alloc (.cells #[.int .u32 (x1 : Int), .int .i64 (x2 : Int)] 44);have Z3 := heapA Z2 (.cells #[.int .u32 (x1 : Int), .int .i64 (x2 : Int)] 44);have G3 := grownAllocR G2 (.cells #[.int .u32 (x1 : Int), .int .i64 (x2 : Int)] 44);(have hzne : w.heap.size < w2.heap.size := by omega);have hg2 : g < w2.heap.size := h2.lt.1;have p0 := h2.cell;have p1 := h2.free;simp only at p0
 cases f2 with
 | true =>
   (have HT2 : Hid (B.take s = ((0, 0), (l2', true))) := by have := HT.out; rw [if_pos (Or.inl rfl)] at this; exact this);clear HT;have h4 := h2.fails.alloc (.cells #[.int .u32 (x1 : Int), .int .i64 (x2 : Int)] 44);have Z4 := heapA (heapG Z2 (grownSet w2 g 2 (.bool true)) hne) (.cells #[.int .u32 (x1 : Int), .int .i64 (x2 : Int)] 44);have G4 := grownAllocR (grownTrans G2 (grownSet w2 g 2 (.bool true))) (.cells #[.int .u32 (x1 : Int), .int .i64 (x2 : Int)] 44)
   go_upto_region 5 with fail
   generalize (w2.setCell ⟨g, 2, none⟩ (.bool true)).alloc (.cells #[.int .u32 (x1 : Int), .int .i64 (x2 : Int)] 44) = w4 at h4 Z4 G4 ⊢;have a0 := cellAt Z4 0;have a1 := cellAt Z4 1;have c0 := freeAt Z4 0;have c1 := freeAt Z4 1;have Z5 := setAt (setAt Z4 0 (.int .u32 0)) 1 (.int .i64 0);have r0 := cellAt Z5 0;have r1 := cellAt Z5 1;simp only [zQ] at a0 a1;simp at r0 r1
   go_wp2_with fail
   refine bodyPost_ret (v := bal 0 (0 : Nat)) (by simp [results, Tryz.results45, go_sem, r0, r1]) rfl ⟨by rw [HT2.out], by rw [HT2.out]; exact (h4.setNew hne hB _ _).setNew hne hB _ _, grownSetNew (grownSetNew G4 (Nat.le_refl _) _ _) (Nat.le_refl _) _ _⟩
 | false =>
   (have q0 : (w2.alloc (.cells #[.int .u32 (x1 : Int), .int .i64 (x2 : Int)] 44)).cell? ⟨w2.heap.size, 0, none⟩ = some (.int .u32 (x1 : Int)) := by simp);(have q1 : (w2.alloc (.cells #[.int .u32 (x1 : Int), .int .i64 (x2 : Int)] 44)).cell? ⟨w2.heap.size, 1, none⟩ = some (.int .i64 (x2 : Int)) := by simp)
   cases hf : B.formed (x2 : Int) with
   | false =>
     (have HT2 : Hid (B.take s = ((0, 0), (l2', true))) := by have := HT.out; rw [if_pos (Or.inr hf)] at this; exact this);have HF := Lib.hid hf;clear HT hf
     go_wp2_with fail
     refine (rbformed_any x1 x2 _).mono ?_;rw [HF.out];rintro e w5 ⟨rfl, b5⟩;have h5 := h3.below b5;have Z5 := heapB Z3 b5;have G5 := grownBelow G3 b5;have q2 := h5.cell;have q3 := h5.free;simp only at q2;have h4 := h5.fails;have g4 := grownSet w5 g 2 (.bool true);have Z4 := heapG Z5 g4 hne;have G4 := grownTrans G5 g4
     go_upto_region 5 with fail
     generalize w5.setCell ⟨g, 2, none⟩ (.bool true) = w4 at h4 Z4 G4 ⊢;clear g4 Z5 q2 q3;have a0 := cellAt Z4 0;have a1 := cellAt Z4 1;have c0 := freeAt Z4 0;have c1 := freeAt Z4 1;have Z5 := setAt (setAt Z4 0 (.int .u32 0)) 1 (.int .i64 0);have r0 := cellAt Z5 0;have r1 := cellAt Z5 1;simp only [zQ] at a0 a1;simp at r0 r1
     go_wp2_with fail
     refine bodyPost_ret (v := bal 0 (0 : Nat)) (by simp [results, Tryz.results45, go_sem, r0, r1]) rfl ⟨by rw [HT2.out], by rw [HT2.out]; exact (h4.setNew hne hB _ _).setNew hne hB _ _, grownSetNew (grownSetNew G4 (Nat.le_refl _) _ _) (Nat.le_refl _) _ _⟩
   | true =>
     (have HT2 : Hid (B.take s = ((x1, x2), (l2', false))) := by have := HT.out; rw [if_neg (by simp [hf])] at this; exact this);have HF := Lib.hid hf;clear HT hf
     go_wp2_with fail
     refine (rbformed_any x1 x2 _).mono ?_;rw [HF.out];rintro e w5 ⟨rfl, b5⟩;have h5 := h3.below b5;have Z5 := heapB Z3 b5;have G5 := grownBelow G3 b5;have q0 := cellB b5 q0;have q1 := cellB b5 q1;have a0 := cellAt Z5 0;have a1 := cellAt Z5 1;have c0 := freeAt Z5 0;have c1 := freeAt Z5 1;have Z6 := setAt (setAt Z5 0 (.int .u32 (x1 : Int))) 1 (.int .i64 (x2 : Int));have r0 := cellAt Z6 0;have r1 := cellAt Z6 1;simp only [zQ] at a0 a1;simp at r0 r1
     go_wp2_with fail
     refine bodyPost_ret (v := bal x1 x2) (by simp [results, Tryz.results45, go_sem, r0, r1]) rfl ⟨by rw [HT2.out], by rw [HT2.out]; exact (h5.setNew hne hB _ _).setNew hne hB _ _, grownSetNew (grownSetNew G5 (Nat.le_refl _) _ _) (Nat.le_refl _) _ _⟩
end
end Go.Proofs.YthclniimhpmeoaaGreatDoor
