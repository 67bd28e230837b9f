import Derived.Test.YthclniimhpmeoaaGreatDoorMrM35
set_option maxHeartbeats 6400000
set_option linter.unusedSimpArgs false
set_option linter.unusedVariables false
namespace Go.Proofs.YthclniimhpmeoaaGreatDoor
set_option maxRecDepth 20000
open Go.RowKit T
theorem rcput_no {w : World} {B : Nat} {v : Value} {l : List UInt8} (h : SlB w B v l) (hl : l.length ≤ 2147483648) (hB : B ≤ w.heap.size) (x : Cm) (ok : CmOk w w.heap.size x) (hf : x.formed = false) : Calls Tryz.prog 37 #[v, .agg x.cells.toArray] w (MadeB w l) := by
 have HF := Lib.hid (fun z (hz : Below w.heap.size w z) => rcformed_any x.k x.s x.q x.rs x.ws x.A1 x.c1 x.A2 x.c2 x.i x.j x.g x.st x.y z w.heap.size hz.size (ok.below hz (Nat.le_refl _)));have HFE : Hid (x.formed = T.cformed x.k x.s x.q x.rs x.ws x.i x.j x.g x.st x.y) := rfl;rw [← HFE.out, hf] at HF;have HO := Lib.hid ok;clear ok hf HFE;obtain ⟨i0, hi, hz0, hz1, hz2⟩ := info_parts info_u8;obtain ⟨vA, vc, rfl, hvc, hvm, hA, hvr⟩ := h;obtain ⟨m, hm⟩ : ∃ m, m = l.length := ⟨_, rfl⟩;have HM := Lib.hid hm;(have hml : m ≤ 2147483648 := by rw [hm]; exact hl);rw [← hm] at hvc ⊢;clear hm;unfold maxLen at hvm;obtain ⟨w0, hw0⟩ : ∃ w0, w0 = w.alloc (.cells x.cells.toArray 45) := ⟨_, rfl⟩;(have ee : Below w.heap.size w w0 := by rw [hw0]; exact (Below.refl _ _).alloc (Nat.le_refl _) _);(have Zt : w0.heap[w.heap.size]? = some (.cells x.cells.toArray 45) := by rw [hw0]; exact hpN _ _ rfl)
 go_enter Tryz.func37, Tryz.ntmps37
 go_upto_region 1 with fail
 rw [← hw0];clear hw0
 go_upto_region 2 with fail
 refine wp_region_lit ?_;(iterate 6 go_step);refine wpList_append_rd _ rfl (.tmp 6) (.tmp 7) 34 rfl w.heap.size 5 i0 (.int .u8 0) 1 Tryz.underlying34 hi hz0 hz1 hz2 rfl _ _ _ rfl (World.ownsRow_nil _ _ _ _) B vA m vc (bc l) rfl (by rw [bc_len, HM.out]) (fun h => (hA h).2) (hvr.belowM ee hB) (bc_one l) (by unfold maxLen; omega) (by omega) ee.size ?_;intro v1 z1 ho_ hg_;have t := belowNone hg_;have Zt := hpB Zt t;have ee := bU ee t;(have ho : z1.ownsRow w.heap.size 5 1 v1 l.length (bc l) := by rw [← HM.out]; simpa using ho_);clear ho_ hg_ t;(iterate 3 go_step)
 go_upto_region 3 with fail
 refine wp_region_lit ?_
 iterate 27 (first | with_reducible refine isLoad (ty := 45) rfl ?_ | go_step)
 refine wpList_load_mid rfl 45 _ rfl (w.heap.size) 0 rfl (x.cells) _ (rowAt Zt) Tryz.underlying45 rfl sizeRCm ?_
 go_wp2_with fail
 refine (HF.out z1 ee).mono ?_;rintro e z2 ⟨rfl, t⟩;have ho := ownBelow ho t;have Zt := hpB Zt t;have ee := bU ee t;clear t;clear HF
 go_wp2_with fail
 go_ret
 exact ⟨_, rfl, ho, ee⟩
theorem rcput_0 {w : World} {B : Nat} {v : Value} {l : List UInt8} (h : SlB w B v l) (hl : l.length ≤ 2147483648) (hB : B ≤ w.heap.size) (x : Cm) (ok : CmOk w w.heap.size x) (hf : x.formed = true) (hk : x.k = 0) : Calls Tryz.prog 37 #[v, .agg x.cells.toArray] w (MadeB w (C.put l 0 1)) := by
 (have HX0 : Hid (x.cells[0]? = some (.int .i64 0)) := by show _ = _; rw [← hk]; rfl);have HF := Lib.hid (fun z (hz : Below w.heap.size w z) => rcformed_any x.k x.s x.q x.rs x.ws x.A1 x.c1 x.A2 x.c2 x.i x.j x.g x.st x.y z w.heap.size hz.size (ok.below hz (Nat.le_refl _)));have HFE : Hid (x.formed = T.cformed x.k x.s x.q x.rs x.ws x.i x.j x.g x.st x.y) := rfl;rw [← HFE.out, hf] at HF;have HO := Lib.hid ok;clear ok hf HFE;have HL1 := put_len2 l 0 1;clear hk;obtain ⟨i0, hi, hz0, hz1, hz2⟩ := info_parts info_u8;obtain ⟨vA, vc, rfl, hvc, hvm, hA, hvr⟩ := h;obtain ⟨m, hm⟩ : ∃ m, m = l.length := ⟨_, rfl⟩;have HM := Lib.hid hm;(have hml : m ≤ 2147483648 := by rw [hm]; exact hl);rw [← hm] at hvc ⊢;clear hm;unfold maxLen at hvm;obtain ⟨w0, hw0⟩ : ∃ w0, w0 = w.alloc (.cells x.cells.toArray 45) := ⟨_, rfl⟩;(have ee : Below w.heap.size w w0 := by rw [hw0]; exact (Below.refl _ _).alloc (Nat.le_refl _) _);(have Zt : w0.heap[w.heap.size]? = some (.cells x.cells.toArray 45) := by rw [hw0]; exact hpN _ _ rfl)
 go_enter Tryz.func37, Tryz.ntmps37
 go_upto_region 1 with fail
 rw [← hw0];clear hw0
 go_upto_region 2 with fail
 refine wp_region_lit ?_;(iterate 6 go_step);refine wpList_append_rd _ rfl (.tmp 6) (.tmp 7) 34 rfl w.heap.size 5 i0 (.int .u8 0) 1 Tryz.underlying34 hi hz0 hz1 hz2 rfl _ _ _ rfl (World.ownsRow_nil _ _ _ _) B vA m vc (bc l) rfl (by rw [bc_len, HM.out]) (fun h => (hA h).2) (hvr.belowM ee hB) (bc_one l) (by unfold maxLen; omega) (by omega) ee.size ?_;intro v1 z1 ho_ hg_;have t := belowNone hg_;have Zt := hpB Zt t;have ee := bU ee t;(have ho : z1.ownsRow w.heap.size 5 1 v1 l.length (bc l) := by rw [← HM.out]; simpa using ho_);clear ho_ hg_ t;(iterate 3 go_step)
 go_upto_region 3 with fail
 refine wp_region_lit ?_
 iterate 27 (first | with_reducible refine isLoad (ty := 45) rfl ?_ | go_step)
 refine wpList_load_mid rfl 45 _ rfl (w.heap.size) 0 rfl (x.cells) _ (rowAt Zt) Tryz.underlying45 rfl sizeRCm ?_
 go_wp2_with fail
 refine (HF.out z1 ee).mono ?_;rintro e z2 ⟨rfl, t⟩;have ho := ownBelow ho t;have Zt := hpB Zt t;have ee := bU ee t;clear t;clear HF;have x0 := rowCell Zt 0 (v := .int .i64 0) HX0.out
 go_upto_region 5 with fail
 refine wp_region_lit ?_;(iterate 15 go_step);have lZt := (Array.getElem?_eq_some_iff.1 Zt).1;have Zt := hpA Zt (.cells #[.int .u8 (0 : Int)] 5);have sz_ := ee.size;have ho := ho.alloc (.cells #[.int .u8 (0 : Int)] 5);have ee := ee.alloc ee.size (.cells #[.int .u8 (0 : Int)] 5);have ZN := hpN z2 (.cells #[.int .u8 (0 : Int)] 5) rfl;generalize z2.alloc (.cells #[.int .u8 (0 : Int)] 5) = z3 at ho ZN Zt ee ⊢;refine wpList_append_own _ rfl (.tmp 13) (.tmp 17) 34 rfl w.heap.size 5 i0 (.int .u8 0) 1 1 Tryz.underlying34 hi hz0 hz1 hz2 rfl (by decide) _ _ _ rfl ho ⟨z2.heap.size, 0, none⟩ 1 1 [.int .u8 (0 : Int)] rfl rfl (rowAdd (cs := [.int .u8 (0 : Int)]) ZN) (by simp [Value.oneCell']) (by unfold maxLen; omega) (by omega) ee.size ?_;intro v2 z4 ho_ hg_ _;clear ZN sz_;have Zt := heapOwn Zt ho (by decide) hg_;have ee := ee.grown hg_ ee.size (fun g hg => (ho.lt g hg).1);clear ho hg_;have ho : z4.ownsRow w.heap.size 5 1 v2 (C.put l 0 1).length (bc (C.put l 0 1)) := byteOwn ho_ (by omega);clear ho_;clear x0;have x0 := rowCell Zt 0 (v := .int .i64 0) HX0.out
 go_wp2_with fail
 go_ret
 exact ⟨_, rfl, ho, ee⟩
theorem rcput_1 {w : World} {B : Nat} {v : Value} {l : List UInt8} (h : SlB w B v l) (hl : l.length ≤ 2147483648) (hB : B ≤ w.heap.size) (x : Cm) (ok : CmOk w w.heap.size x) (hf : x.formed = true) (hk : x.k = 1) : Calls Tryz.prog 37 #[v, .agg x.cells.toArray] w (MadeB w (tput (C.put l 1 1) x.s x.q x.rs x.ws)) := by
 (have HX0 : Hid (x.cells[0]? = some (.int .i64 1)) := by show _ = _; rw [← hk]; rfl);have HF := Lib.hid (fun z (hz : Below w.heap.size w z) => rcformed_any x.k x.s x.q x.rs x.ws x.A1 x.c1 x.A2 x.c2 x.i x.j x.g x.st x.y z w.heap.size hz.size (ok.below hz (Nat.le_refl _)));have HFE : Hid (x.formed = T.cformed x.k x.s x.q x.rs x.ws x.i x.j x.g x.st x.y) := rfl;rw [← HFE.out, hf] at HF;have HO := Lib.hid ok;clear ok hf HFE;have HL1 := put_len2 l 1 1;clear hk;obtain ⟨i0, hi, hz0, hz1, hz2⟩ := info_parts info_u8;obtain ⟨vA, vc, rfl, hvc, hvm, hA, hvr⟩ := h;obtain ⟨m, hm⟩ : ∃ m, m = l.length := ⟨_, rfl⟩;have HM := Lib.hid hm;(have hml : m ≤ 2147483648 := by rw [hm]; exact hl);rw [← hm] at hvc ⊢;clear hm;unfold maxLen at hvm;obtain ⟨w0, hw0⟩ : ∃ w0, w0 = w.alloc (.cells x.cells.toArray 45) := ⟨_, rfl⟩;(have ee : Below w.heap.size w w0 := by rw [hw0]; exact (Below.refl _ _).alloc (Nat.le_refl _) _);(have Zt : w0.heap[w.heap.size]? = some (.cells x.cells.toArray 45) := by rw [hw0]; exact hpN _ _ rfl)
 go_enter Tryz.func37, Tryz.ntmps37
 go_upto_region 1 with fail
 rw [← hw0];clear hw0
 go_upto_region 2 with fail
 refine wp_region_lit ?_;(iterate 6 go_step);refine wpList_append_rd _ rfl (.tmp 6) (.tmp 7) 34 rfl w.heap.size 5 i0 (.int .u8 0) 1 Tryz.underlying34 hi hz0 hz1 hz2 rfl _ _ _ rfl (World.ownsRow_nil _ _ _ _) B vA m vc (bc l) rfl (by rw [bc_len, HM.out]) (fun h => (hA h).2) (hvr.belowM ee hB) (bc_one l) (by unfold maxLen; omega) (by omega) ee.size ?_;intro v1 z1 ho_ hg_;have t := belowNone hg_;have Zt := hpB Zt t;have ee := bU ee t;(have ho : z1.ownsRow w.heap.size 5 1 v1 l.length (bc l) := by rw [← HM.out]; simpa using ho_);clear ho_ hg_ t;(iterate 3 go_step)
 go_upto_region 3 with fail
 refine wp_region_lit ?_
 iterate 27 (first | with_reducible refine isLoad (ty := 45) rfl ?_ | go_step)
 refine wpList_load_mid rfl 45 _ rfl (w.heap.size) 0 rfl (x.cells) _ (rowAt Zt) Tryz.underlying45 rfl sizeRCm ?_
 go_wp2_with fail
 refine (HF.out z1 ee).mono ?_;rintro e z2 ⟨rfl, t⟩;have ho := ownBelow ho t;have Zt := hpB Zt t;have ee := bU ee t;clear t;clear HF;have x0 := rowCell Zt 0 (v := .int .i64 1) HX0.out
 go_upto_region 5 with fail
 refine wp_region_lit ?_;(iterate 15 go_step);have lZt := (Array.getElem?_eq_some_iff.1 Zt).1;have Zt := hpA Zt (.cells #[.int .u8 (1 : Int)] 5);have sz_ := ee.size;have ho := ho.alloc (.cells #[.int .u8 (1 : Int)] 5);have ee := ee.alloc ee.size (.cells #[.int .u8 (1 : Int)] 5);have ZN := hpN z2 (.cells #[.int .u8 (1 : Int)] 5) rfl;generalize z2.alloc (.cells #[.int .u8 (1 : Int)] 5) = z3 at ho ZN Zt ee ⊢;refine wpList_append_own _ rfl (.tmp 13) (.tmp 17) 34 rfl w.heap.size 5 i0 (.int .u8 0) 1 1 Tryz.underlying34 hi hz0 hz1 hz2 rfl (by decide) _ _ _ rfl ho ⟨z2.heap.size, 0, none⟩ 1 1 [.int .u8 (1 : Int)] rfl rfl (rowAdd (cs := [.int .u8 (1 : Int)]) ZN) (by simp [Value.oneCell']) (by unfold maxLen; omega) (by omega) ee.size ?_;intro v2 z4 ho_ hg_ _;clear ZN sz_;have Zt := heapOwn Zt ho (by decide) hg_;have ee := ee.grown hg_ ee.size (fun g hg => (ho.lt g hg).1);clear ho hg_;have ho : z4.ownsRow w.heap.size 5 1 v2 (C.put l 1 1).length (bc (C.put l 1 1)) := byteOwn ho_ (by omega);clear ho_;clear x0;have x0 := rowCell Zt 0 (v := .int .i64 1) HX0.out
 go_upto_region 7 with fail
 refine wp_region_lit ?_
 iterate 27 (first | with_reducible refine isLoad (ty := 30) rfl ?_ | go_step)
 refine wpList_load_mid rfl 30 _ rfl (w.heap.size) 1 rfl ([.int .i64 x.s, .int .i64 x.q, .slice x.A1 x.rs.length x.c1, .slice x.A2 x.ws.length x.c2]) _ (rowMid Zt 1 (by intro j v hj; match j, hj with | 0, hj => exact hj | 1, hj => exact hj | 2, hj => exact hj | 3, hj => exact hj)) Tryz.underlying30 rfl sizeTx ?_
 clear x0
 go_wp2_with fail
 have sz_ := ee.size;refine (rtput_s (SlB.ofOwn ho) (by omega) (Nat.le_refl _) x.s x.q x.rs x.ws x.A1 x.c1 x.A2 x.c2 (TxOk.more (TxOk.below HO.out ee (Nat.le_refl _)) ee.size)).mono ?_;rintro e z5 ⟨v3, rfl, on_, t⟩;clear ho;have ho := ownMore on_ sz_;clear on_ sz_;have Zt := hpB Zt t;have ee := bU ee t;clear t
 go_wp2_with fail
 go_ret
 exact ⟨_, rfl, ho, ee⟩
theorem rcput_2 {w : World} {B : Nat} {v : Value} {l : List UInt8} (h : SlB w B v l) (hl : l.length ≤ 2147483648) (hB : B ≤ w.heap.size) (x : Cm) (ok : CmOk w w.heap.size x) (hf : x.formed = true) (hk : x.k = 2) (gn : Nat) (hg : x.g = (gn : Int)) (hg4 : gn < 4) (hst : x.st < 9223372036854775808) : Calls Tryz.prog 37 #[v, .agg x.cells.toArray] w (MadeB w (C.put (C.put (idput (C.put l 2 1) x.i x.j) gn 1) x.st 8)) := by
 (have HX0 : Hid (x.cells[0]? = some (.int .i64 2)) := by show _ = _; rw [← hk]; rfl);(have HX7 : Hid (x.cells[7]? = some (.int .i64 (gn : Int))) := by show _ = _; rw [← hg]; rfl);have HL2 := idput_len (C.put l 2 1) x.i x.j;have HL3 := put_len2 (idput (C.put l 2 1) x.i x.j) gn 1;have k1 : IntKind.u8.wrap (gn : Int) = (gn : Int) := wrap8 (by omega);clear hg;have HF := Lib.hid (fun z (hz : Below w.heap.size w z) => rcformed_any x.k x.s x.q x.rs x.ws x.A1 x.c1 x.A2 x.c2 x.i x.j x.g x.st x.y z w.heap.size hz.size (ok.below hz (Nat.le_refl _)));have HFE : Hid (x.formed = T.cformed x.k x.s x.q x.rs x.ws x.i x.j x.g x.st x.y) := rfl;rw [← HFE.out, hf] at HF;have HO := Lib.hid ok;clear ok hf HFE;have HL1 := put_len2 l 2 1;clear hk;obtain ⟨i0, hi, hz0, hz1, hz2⟩ := info_parts info_u8;obtain ⟨vA, vc, rfl, hvc, hvm, hA, hvr⟩ := h;obtain ⟨m, hm⟩ : ∃ m, m = l.length := ⟨_, rfl⟩;have HM := Lib.hid hm;(have hml : m ≤ 2147483648 := by rw [hm]; exact hl);rw [← hm] at hvc ⊢;clear hm;unfold maxLen at hvm;obtain ⟨w0, hw0⟩ : ∃ w0, w0 = w.alloc (.cells x.cells.toArray 45) := ⟨_, rfl⟩;(have ee : Below w.heap.size w w0 := by rw [hw0]; exact (Below.refl _ _).alloc (Nat.le_refl _) _);(have Zt : w0.heap[w.heap.size]? = some (.cells x.cells.toArray 45) := by rw [hw0]; exact hpN _ _ rfl)
 go_enter Tryz.func37, Tryz.ntmps37
 go_upto_region 1 with fail
 rw [← hw0];clear hw0
 go_upto_region 2 with fail
 refine wp_region_lit ?_;(iterate 6 go_step);refine wpList_append_rd _ rfl (.tmp 6) (.tmp 7) 34 rfl w.heap.size 5 i0 (.int .u8 0) 1 Tryz.underlying34 hi hz0 hz1 hz2 rfl _ _ _ rfl (World.ownsRow_nil _ _ _ _) B vA m vc (bc l) rfl (by rw [bc_len, HM.out]) (fun h => (hA h).2) (hvr.belowM ee hB) (bc_one l) (by unfold maxLen; omega) (by omega) ee.size ?_;intro v1 z1 ho_ hg_;have t := belowNone hg_;have Zt := hpB Zt t;have ee := bU ee t;(have ho : z1.ownsRow w.heap.size 5 1 v1 l.length (bc l) := by rw [← HM.out]; simpa using ho_);clear ho_ hg_ t;(iterate 3 go_step)
 go_upto_region 3 with fail
 refine wp_region_lit ?_
 iterate 27 (first | with_reducible refine isLoad (ty := 45) rfl ?_ | go_step)
 refine wpList_load_mid rfl 45 _ rfl (w.heap.size) 0 rfl (x.cells) _ (rowAt Zt) Tryz.underlying45 rfl sizeRCm ?_
 go_wp2_with fail
 refine (HF.out z1 ee).mono ?_;rintro e z2 ⟨rfl, t⟩;have ho := ownBelow ho t;have Zt := hpB Zt t;have ee := bU ee t;clear t;clear HF;have x0 := rowCell Zt 0 (v := .int .i64 2) HX0.out
 go_upto_region 5 with fail
 refine wp_region_lit ?_;(iterate 15 go_step);have lZt := (Array.getElem?_eq_some_iff.1 Zt).1;have Zt := hpA Zt (.cells #[.int .u8 (2 : Int)] 5);have sz_ := ee.size;have ho := ho.alloc (.cells #[.int .u8 (2 : Int)] 5);have ee := ee.alloc ee.size (.cells #[.int .u8 (2 : Int)] 5);have ZN := hpN z2 (.cells #[.int .u8 (2 : Int)] 5) rfl;generalize z2.alloc (.cells #[.int .u8 (2 : Int)] 5) = z3 at ho ZN Zt ee ⊢;refine wpList_append_own _ rfl (.tmp 13) (.tmp 17) 34 rfl w.heap.size 5 i0 (.int .u8 0) 1 1 Tryz.underlying34 hi hz0 hz1 hz2 rfl (by decide) _ _ _ rfl ho ⟨z2.heap.size, 0, none⟩ 1 1 [.int .u8 (2 : Int)] rfl rfl (rowAdd (cs := [.int .u8 (2 : Int)]) ZN) (by simp [Value.oneCell']) (by unfold maxLen; omega) (by omega) ee.size ?_;intro v2 z4 ho_ hg_ _;clear ZN sz_;have Zt := heapOwn Zt ho (by decide) hg_;have ee := ee.grown hg_ ee.size (fun g hg => (ho.lt g hg).1);clear ho hg_;have ho : z4.ownsRow w.heap.size 5 1 v2 (C.put l 2 1).length (bc (C.put l 2 1)) := byteOwn ho_ (by omega);clear ho_;clear x0;have x0 := rowCell Zt 0 (v := .int .i64 2) HX0.out
 go_upto_region 10 with fail
 clear x0;have x5 := rowCell Zt 5 (v := .int .i64 x.i) rfl;have x6 := rowCell Zt 6 (v := .int .i64 x.j) rfl
 go_wp2_with fail
 have sz_ := ee.size;refine (rputid_s (SlB.ofOwn ho) (by omega) (Nat.le_refl _) x.i x.j).mono ?_;rintro e z5 ⟨v3, rfl, on_, t⟩;clear ho;have ho := ownMore on_ sz_;clear on_ sz_;have Zt := hpB Zt t;have ee := bU ee t;clear t;clear x5 x6
 go_upto_region 11 with fail
 have x7 := rowCell Zt 7 (v := .int .i64 (gn : Int)) HX7.out;refine wp_region_lit ?_;(iterate 15 go_step);have lZt := (Array.getElem?_eq_some_iff.1 Zt).1;have Zt := hpA Zt (.cells #[.int .u8 (gn : Int)] 5);have sz_ := ee.size;have ho := ho.alloc (.cells #[.int .u8 (gn : Int)] 5);have ee := ee.alloc ee.size (.cells #[.int .u8 (gn : Int)] 5);have ZN := hpN z5 (.cells #[.int .u8 (gn : Int)] 5) rfl;generalize z5.alloc (.cells #[.int .u8 (gn : Int)] 5) = z6 at ho ZN Zt ee ⊢;refine wpList_append_own _ rfl (.tmp 34) (.tmp 38) 34 rfl w.heap.size 5 i0 (.int .u8 0) 1 1 Tryz.underlying34 hi hz0 hz1 hz2 rfl (by decide) _ _ _ rfl ho ⟨z5.heap.size, 0, none⟩ 1 1 [.int .u8 (gn : Int)] rfl rfl (rowAdd (cs := [.int .u8 (gn : Int)]) ZN) (by simp [Value.oneCell']) (by unfold maxLen; omega) (by omega) ee.size ?_;intro v4 z7 ho_ hg_ _;clear ZN sz_;have Zt := heapOwn Zt ho (by decide) hg_;have ee := ee.grown hg_ ee.size (fun g hg => (ho.lt g hg).1);clear ho hg_;have ho : z7.ownsRow w.heap.size 5 1 v4 (C.put (idput (C.put l 2 1) x.i x.j) gn 1).length (bc (C.put (idput (C.put l 2 1) x.i x.j) gn 1)) := byteOwn ho_ (by omega);clear ho_;clear x7 k1;have x0 := rowCell Zt 0 (v := .int .i64 2) HX0.out;have x8 := rowCell Zt 8 (v := .int .u64 (x.st : Int)) rfl
 go_wp2_with fail
 have sz_ := ee.size;refine (rput_o ho (by omega) x.st (by omega) 8 (by omega) (by omega)).mono ?_;rintro e z8 ⟨v5, rfl, on_, t⟩;clear ho;have ho := ownMore on_ sz_;clear on_ sz_;have Zt := hpB Zt t;have ee := bU ee t;clear t
 go_wp2_with fail
 go_ret
 exact ⟨_, rfl, ho, ee⟩
theorem rcput_3f {w : World} {B : Nat} {v : Value} {l : List UInt8} (h : SlB w B v l) (hl : l.length ≤ 2147483648) (hB : B ≤ w.heap.size) (x : Cm) (ok : CmOk w w.heap.size x) (hf : x.formed = true) (hk : x.k = 3) (gn : Nat) (hg : x.g = (gn : Int)) (hg4 : gn < 4) (hy : x.y = false) : Calls Tryz.prog 37 #[v, .agg x.cells.toArray] w (MadeB w (C.put (C.put (idput (C.put l 3 1) x.i x.j) gn 1) 0 1)) := by
 (have HX0 : Hid (x.cells[0]? = some (.int .i64 3)) := by show _ = _; rw [← hk]; rfl);(have HX9 : Hid (x.cells[9]? = some (.bool false)) := by show _ = _; rw [← hy]; rfl);clear hy;(have HX7 : Hid (x.cells[7]? = some (.int .i64 (gn : Int))) := by show _ = _; rw [← hg]; rfl);have HL2 := idput_len (C.put l 3 1) x.i x.j;have HL3 := put_len2 (idput (C.put l 3 1) x.i x.j) gn 1;have k1 : IntKind.u8.wrap (gn : Int) = (gn : Int) := wrap8 (by omega);clear hg;have HF := Lib.hid (fun z (hz : Below w.heap.size w z) => rcformed_any x.k x.s x.q x.rs x.ws x.A1 x.c1 x.A2 x.c2 x.i x.j x.g x.st x.y z w.heap.size hz.size (ok.below hz (Nat.le_refl _)));have HFE : Hid (x.formed = T.cformed x.k x.s x.q x.rs x.ws x.i x.j x.g x.st x.y) := rfl;rw [← HFE.out, hf] at HF;have HO := Lib.hid ok;clear ok hf HFE;have HL1 := put_len2 l 3 1;clear hk;obtain ⟨i0, hi, hz0, hz1, hz2⟩ := info_parts info_u8;obtain ⟨vA, vc, rfl, hvc, hvm, hA, hvr⟩ := h;obtain ⟨m, hm⟩ : ∃ m, m = l.length := ⟨_, rfl⟩;have HM := Lib.hid hm;(have hml : m ≤ 2147483648 := by rw [hm]; exact hl);rw [← hm] at hvc ⊢;clear hm;unfold maxLen at hvm;obtain ⟨w0, hw0⟩ : ∃ w0, w0 = w.alloc (.cells x.cells.toArray 45) := ⟨_, rfl⟩;(have ee : Below w.heap.size w w0 := by rw [hw0]; exact (Below.refl _ _).alloc (Nat.le_refl _) _);(have Zt : w0.heap[w.heap.size]? = some (.cells x.cells.toArray 45) := by rw [hw0]; exact hpN _ _ rfl)
 go_enter Tryz.func37, Tryz.ntmps37
 go_upto_region 1 with fail
 rw [← hw0];clear hw0
 go_upto_region 2 with fail
 refine wp_region_lit ?_;(iterate 6 go_step);refine wpList_append_rd _ rfl (.tmp 6) (.tmp 7) 34 rfl w.heap.size 5 i0 (.int .u8 0) 1 Tryz.underlying34 hi hz0 hz1 hz2 rfl _ _ _ rfl (World.ownsRow_nil _ _ _ _) B vA m vc (bc l) rfl (by rw [bc_len, HM.out]) (fun h => (hA h).2) (hvr.belowM ee hB) (bc_one l) (by unfold maxLen; omega) (by omega) ee.size ?_;intro v1 z1 ho_ hg_;have t := belowNone hg_;have Zt := hpB Zt t;have ee := bU ee t;(have ho : z1.ownsRow w.heap.size 5 1 v1 l.length (bc l) := by rw [← HM.out]; simpa using ho_);clear ho_ hg_ t;(iterate 3 go_step)
 go_upto_region 3 with fail
 refine wp_region_lit ?_
 iterate 27 (first | with_reducible refine isLoad (ty := 45) rfl ?_ | go_step)
 refine wpList_load_mid rfl 45 _ rfl (w.heap.size) 0 rfl (x.cells) _ (rowAt Zt) Tryz.underlying45 rfl sizeRCm ?_
 go_wp2_with fail
 refine (HF.out z1 ee).mono ?_;rintro e z2 ⟨rfl, t⟩;have ho := ownBelow ho t;have Zt := hpB Zt t;have ee := bU ee t;clear t;clear HF;have x0 := rowCell Zt 0 (v := .int .i64 3) HX0.out
 go_upto_region 5 with fail
 refine wp_region_lit ?_;(iterate 15 go_step);have lZt := (Array.getElem?_eq_some_iff.1 Zt).1;have Zt := hpA Zt (.cells #[.int .u8 (3 : Int)] 5);have sz_ := ee.size;have ho := ho.alloc (.cells #[.int .u8 (3 : Int)] 5);have ee := ee.alloc ee.size (.cells #[.int .u8 (3 : Int)] 5);have ZN := hpN z2 (.cells #[.int .u8 (3 : Int)] 5) rfl;generalize z2.alloc (.cells #[.int .u8 (3 : Int)] 5) = z3 at ho ZN Zt ee ⊢;refine wpList_append_own _ rfl (.tmp 13) (.tmp 17) 34 rfl w.heap.size 5 i0 (.int .u8 0) 1 1 Tryz.underlying34 hi hz0 hz1 hz2 rfl (by decide) _ _ _ rfl ho ⟨z2.heap.size, 0, none⟩ 1 1 [.int .u8 (3 : Int)] rfl rfl (rowAdd (cs := [.int .u8 (3 : Int)]) ZN) (by simp [Value.oneCell']) (by unfold maxLen; omega) (by omega) ee.size ?_;intro v2 z4 ho_ hg_ _;clear ZN sz_;have Zt := heapOwn Zt ho (by decide) hg_;have ee := ee.grown hg_ ee.size (fun g hg => (ho.lt g hg).1);clear ho hg_;have ho : z4.ownsRow w.heap.size 5 1 v2 (C.put l 3 1).length (bc (C.put l 3 1)) := byteOwn ho_ (by omega);clear ho_;clear x0;have x0 := rowCell Zt 0 (v := .int .i64 3) HX0.out
 go_upto_region 10 with fail
 clear x0;have x5 := rowCell Zt 5 (v := .int .i64 x.i) rfl;have x6 := rowCell Zt 6 (v := .int .i64 x.j) rfl
 go_wp2_with fail
 have sz_ := ee.size;refine (rputid_s (SlB.ofOwn ho) (by omega) (Nat.le_refl _) x.i x.j).mono ?_;rintro e z5 ⟨v3, rfl, on_, t⟩;clear ho;have ho := ownMore on_ sz_;clear on_ sz_;have Zt := hpB Zt t;have ee := bU ee t;clear t;clear x5 x6
 go_upto_region 11 with fail
 have x7 := rowCell Zt 7 (v := .int .i64 (gn : Int)) HX7.out;refine wp_region_lit ?_;(iterate 15 go_step);have lZt := (Array.getElem?_eq_some_iff.1 Zt).1;have Zt := hpA Zt (.cells #[.int .u8 (gn : Int)] 5);have sz_ := ee.size;have ho := ho.alloc (.cells #[.int .u8 (gn : Int)] 5);have ee := ee.alloc ee.size (.cells #[.int .u8 (gn : Int)] 5);have ZN := hpN z5 (.cells #[.int .u8 (gn : Int)] 5) rfl;generalize z5.alloc (.cells #[.int .u8 (gn : Int)] 5) = z6 at ho ZN Zt ee ⊢;refine wpList_append_own _ rfl (.tmp 34) (.tmp 38) 34 rfl w.heap.size 5 i0 (.int .u8 0) 1 1 Tryz.underlying34 hi hz0 hz1 hz2 rfl (by decide) _ _ _ rfl ho ⟨z5.heap.size, 0, none⟩ 1 1 [.int .u8 (gn : Int)] rfl rfl (rowAdd (cs := [.int .u8 (gn : Int)]) ZN) (by simp [Value.oneCell']) (by unfold maxLen; omega) (by omega) ee.size ?_;intro v4 z7 ho_ hg_ _;clear ZN sz_;have Zt := heapOwn Zt ho (by decide) hg_;have ee := ee.grown hg_ ee.size (fun g hg => (ho.lt g hg).1);clear ho hg_;have ho : z7.ownsRow w.heap.size 5 1 v4 (C.put (idput (C.put l 3 1) x.i x.j) gn 1).length (bc (C.put (idput (C.put l 3 1) x.i x.j) gn 1)) := byteOwn ho_ (by omega);clear ho_;clear x7 k1;have x0 := rowCell Zt 0 (v := .int .i64 3) HX0.out;have x9 := rowCell Zt 9 (v := .bool false) HX9.out
 go_upto_region 16 with fail
 clear x0 x9;refine wp_region_lit ?_;(iterate 6 go_step);have lZt := (Array.getElem?_eq_some_iff.1 Zt).1;have Zt := hpA Zt (.cells #[.int .u8 (0 : Int)] 5);have sz_ := ee.size;have ho := ho.alloc (.cells #[.int .u8 (0 : Int)] 5);have ee := ee.alloc ee.size (.cells #[.int .u8 (0 : Int)] 5);have ZN := hpN z7 (.cells #[.int .u8 (0 : Int)] 5) rfl;generalize z7.alloc (.cells #[.int .u8 (0 : Int)] 5) = z8 at ho ZN Zt ee ⊢;refine wpList_append_own _ rfl (.tmp 52) (.tmp 53) 34 rfl w.heap.size 5 i0 (.int .u8 0) 1 1 Tryz.underlying34 hi hz0 hz1 hz2 rfl (by decide) _ _ _ rfl ho ⟨z7.heap.size, 0, none⟩ 1 1 [.int .u8 (0 : Int)] rfl rfl (rowAdd (cs := [.int .u8 (0 : Int)]) ZN) (by simp [Value.oneCell']) (by unfold maxLen; omega) (by omega) ee.size ?_;intro v5 z9 ho_ hg_ _;clear ZN sz_;have Zt := heapOwn Zt ho (by decide) hg_;have ee := ee.grown hg_ ee.size (fun g hg => (ho.lt g hg).1);clear ho hg_;have ho : z9.ownsRow w.heap.size 5 1 v5 (C.put (C.put (idput (C.put l 3 1) x.i x.j) gn 1) 0 1).length (bc (C.put (C.put (idput (C.put l 3 1) x.i x.j) gn 1) 0 1)) := byteOwn ho_ (by omega);clear ho_
 go_wp2_with fail
 go_ret
 exact ⟨_, rfl, ho, ee⟩
theorem rcput_3t {w : World} {B : Nat} {v : Value} {l : List UInt8} (h : SlB w B v l) (hl : l.length ≤ 2147483648) (hB : B ≤ w.heap.size) (x : Cm) (ok : CmOk w w.heap.size x) (hf : x.formed = true) (hk : x.k = 3) (gn : Nat) (hg : x.g = (gn : Int)) (hg4 : gn < 4) (hy : x.y = true) : Calls Tryz.prog 37 #[v, .agg x.cells.toArray] w (MadeB w (C.put (C.put (idput (C.put l 3 1) x.i x.j) gn 1) 1 1)) := by
 (have HX0 : Hid (x.cells[0]? = some (.int .i64 3)) := by show _ = _; rw [← hk]; rfl);(have HX9 : Hid (x.cells[9]? = some (.bool true)) := by show _ = _; rw [← hy]; rfl);clear hy;(have HX7 : Hid (x.cells[7]? = some (.int .i64 (gn : Int))) := by show _ = _; rw [← hg]; rfl);have HL2 := idput_len (C.put l 3 1) x.i x.j;have HL3 := put_len2 (idput (C.put l 3 1) x.i x.j) gn 1;have k1 : IntKind.u8.wrap (gn : Int) = (gn : Int) := wrap8 (by omega);clear hg;have HF := Lib.hid (fun z (hz : Below w.heap.size w z) => rcformed_any x.k x.s x.q x.rs x.ws x.A1 x.c1 x.A2 x.c2 x.i x.j x.g x.st x.y z w.heap.size hz.size (ok.below hz (Nat.le_refl _)));have HFE : Hid (x.formed = T.cformed x.k x.s x.q x.rs x.ws x.i x.j x.g x.st x.y) := rfl;rw [← HFE.out, hf] at HF;have HO := Lib.hid ok;clear ok hf HFE;have HL1 := put_len2 l 3 1;clear hk;obtain ⟨i0, hi, hz0, hz1, hz2⟩ := info_parts info_u8;obtain ⟨vA, vc, rfl, hvc, hvm, hA, hvr⟩ := h;obtain ⟨m, hm⟩ : ∃ m, m = l.length := ⟨_, rfl⟩;have HM := Lib.hid hm;(have hml : m ≤ 2147483648 := by rw [hm]; exact hl);rw [← hm] at hvc ⊢;clear hm;unfold maxLen at hvm;obtain ⟨w0, hw0⟩ : ∃ w0, w0 = w.alloc (.cells x.cells.toArray 45) := ⟨_, rfl⟩;(have ee : Below w.heap.size w w0 := by rw [hw0]; exact (Below.refl _ _).alloc (Nat.le_refl _) _);(have Zt : w0.heap[w.heap.size]? = some (.cells x.cells.toArray 45) := by rw [hw0]; exact hpN _ _ rfl)
 go_enter Tryz.func37, Tryz.ntmps37
 go_upto_region 1 with fail
 rw [← hw0];clear hw0
 go_upto_region 2 with fail
 refine wp_region_lit ?_;(iterate 6 go_step);refine wpList_append_rd _ rfl (.tmp 6) (.tmp 7) 34 rfl w.heap.size 5 i0 (.int .u8 0) 1 Tryz.underlying34 hi hz0 hz1 hz2 rfl _ _ _ rfl (World.ownsRow_nil _ _ _ _) B vA m vc (bc l) rfl (by rw [bc_len, HM.out]) (fun h => (hA h).2) (hvr.belowM ee hB) (bc_one l) (by unfold maxLen; omega) (by omega) ee.size ?_;intro v1 z1 ho_ hg_;have t := belowNone hg_;have Zt := hpB Zt t;have ee := bU ee t;(have ho : z1.ownsRow w.heap.size 5 1 v1 l.length (bc l) := by rw [← HM.out]; simpa using ho_);clear ho_ hg_ t;(iterate 3 go_step)
 go_upto_region 3 with fail
 refine wp_region_lit ?_
 iterate 27 (first | with_reducible refine isLoad (ty := 45) rfl ?_ | go_step)
 refine wpList_load_mid rfl 45 _ rfl (w.heap.size) 0 rfl (x.cells) _ (rowAt Zt) Tryz.underlying45 rfl sizeRCm ?_
 go_wp2_with fail
 refine (HF.out z1 ee).mono ?_;rintro e z2 ⟨rfl, t⟩;have ho := ownBelow ho t;have Zt := hpB Zt t;have ee := bU ee t;clear t;clear HF;have x0 := rowCell Zt 0 (v := .int .i64 3) HX0.out
 go_upto_region 5 with fail
 refine wp_region_lit ?_;(iterate 15 go_step);have lZt := (Array.getElem?_eq_some_iff.1 Zt).1;have Zt := hpA Zt (.cells #[.int .u8 (3 : Int)] 5);have sz_ := ee.size;have ho := ho.alloc (.cells #[.int .u8 (3 : Int)] 5);have ee := ee.alloc ee.size (.cells #[.int .u8 (3 : Int)] 5);have ZN := hpN z2 (.cells #[.int .u8 (3 : Int)] 5) rfl;generalize z2.alloc (.cells #[.int .u8 (3 : Int)] 5) = z3 at ho ZN Zt ee ⊢;refine wpList_append_own _ rfl (.tmp 13) (.tmp 17) 34 rfl w.heap.size 5 i0 (.int .u8 0) 1 1 Tryz.underlying34 hi hz0 hz1 hz2 rfl (by decide) _ _ _ rfl ho ⟨z2.heap.size, 0, none⟩ 1 1 [.int .u8 (3 : Int)] rfl rfl (rowAdd (cs := [.int .u8 (3 : Int)]) ZN) (by simp [Value.oneCell']) (by unfold maxLen; omega) (by omega) ee.size ?_;intro v2 z4 ho_ hg_ _;clear ZN sz_;have Zt := heapOwn Zt ho (by decide) hg_;have ee := ee.grown hg_ ee.size (fun g hg => (ho.lt g hg).1);clear ho hg_;have ho : z4.ownsRow w.heap.size 5 1 v2 (C.put l 3 1).length (bc (C.put l 3 1)) := byteOwn ho_ (by omega);clear ho_;clear x0;have x0 := rowCell Zt 0 (v := .int .i64 3) HX0.out
 go_upto_region 10 with fail
 clear x0;have x5 := rowCell Zt 5 (v := .int .i64 x.i) rfl;have x6 := rowCell Zt 6 (v := .int .i64 x.j) rfl
 go_wp2_with fail
 have sz_ := ee.size;refine (rputid_s (SlB.ofOwn ho) (by omega) (Nat.le_refl _) x.i x.j).mono ?_;rintro e z5 ⟨v3, rfl, on_, t⟩;clear ho;have ho := ownMore on_ sz_;clear on_ sz_;have Zt := hpB Zt t;have ee := bU ee t;clear t;clear x5 x6
 go_upto_region 11 with fail
 have x7 := rowCell Zt 7 (v := .int .i64 (gn : Int)) HX7.out;refine wp_region_lit ?_;(iterate 15 go_step);have lZt := (Array.getElem?_eq_some_iff.1 Zt).1;have Zt := hpA Zt (.cells #[.int .u8 (gn : Int)] 5);have sz_ := ee.size;have ho := ho.alloc (.cells #[.int .u8 (gn : Int)] 5);have ee := ee.alloc ee.size (.cells #[.int .u8 (gn : Int)] 5);have ZN := hpN z5 (.cells #[.int .u8 (gn : Int)] 5) rfl;generalize z5.alloc (.cells #[.int .u8 (gn : Int)] 5) = z6 at ho ZN Zt ee ⊢;refine wpList_append_own _ rfl (.tmp 34) (.tmp 38) 34 rfl w.heap.size 5 i0 (.int .u8 0) 1 1 Tryz.underlying34 hi hz0 hz1 hz2 rfl (by decide) _ _ _ rfl ho ⟨z5.heap.size, 0, none⟩ 1 1 [.int .u8 (gn : Int)] rfl rfl (rowAdd (cs := [.int .u8 (gn : Int)]) ZN) (by simp [Value.oneCell']) (by unfold maxLen; omega) (by omega) ee.size ?_;intro v4 z7 ho_ hg_ _;clear ZN sz_;have Zt := heapOwn Zt ho (by decide) hg_;have ee := ee.grown hg_ ee.size (fun g hg => (ho.lt g hg).1);clear ho hg_;have ho : z7.ownsRow w.heap.size 5 1 v4 (C.put (idput (C.put l 3 1) x.i x.j) gn 1).length (bc (C.put (idput (C.put l 3 1) x.i x.j) gn 1)) := byteOwn ho_ (by omega);clear ho_;clear x7 k1;have x0 := rowCell Zt 0 (v := .int .i64 3) HX0.out;have x9 := rowCell Zt 9 (v := .bool true) HX9.out
 go_upto_region 15 with fail
 clear x0 x9;refine wp_region_lit ?_;(iterate 6 go_step);have lZt := (Array.getElem?_eq_some_iff.1 Zt).1;have Zt := hpA Zt (.cells #[.int .u8 (1 : Int)] 5);have sz_ := ee.size;have ho := ho.alloc (.cells #[.int .u8 (1 : Int)] 5);have ee := ee.alloc ee.size (.cells #[.int .u8 (1 : Int)] 5);have ZN := hpN z7 (.cells #[.int .u8 (1 : Int)] 5) rfl;generalize z7.alloc (.cells #[.int .u8 (1 : Int)] 5) = z8 at ho ZN Zt ee ⊢;refine wpList_append_own _ rfl (.tmp 49) (.tmp 50) 34 rfl w.heap.size 5 i0 (.int .u8 0) 1 1 Tryz.underlying34 hi hz0 hz1 hz2 rfl (by decide) _ _ _ rfl ho ⟨z7.heap.size, 0, none⟩ 1 1 [.int .u8 (1 : Int)] rfl rfl (rowAdd (cs := [.int .u8 (1 : Int)]) ZN) (by simp [Value.oneCell']) (by unfold maxLen; omega) (by omega) ee.size ?_;intro v5 z9 ho_ hg_ _;clear ZN sz_;have Zt := heapOwn Zt ho (by decide) hg_;have ee := ee.grown hg_ ee.size (fun g hg => (ho.lt g hg).1);clear ho hg_;have ho : z9.ownsRow w.heap.size 5 1 v5 (C.put (C.put (idput (C.put l 3 1) x.i x.j) gn 1) 1 1).length (bc (C.put (C.put (idput (C.put l 3 1) x.i x.j) gn 1) 1 1)) := byteOwn ho_ (by omega);clear ho_
 go_wp2_with fail
 go_ret
 exact ⟨_, rfl, ho, ee⟩
theorem rcput_s {w : World} {B : Nat} {v : Value} {l : List UInt8} (h : SlB w B v l) (hl : l.length ≤ 2147483648) (hB : B ≤ w.heap.size) (x : Cm) (ok : CmOk w w.heap.size x) : Calls Tryz.prog 37 #[v, .agg x.cells.toArray] w (MadeB w (cput l x)) := by
 unfold cput
 cases hf : x.formed with
 | false => exact rcput_no h hl hB x ok hf
 | true =>
   rw [cond_true];rcases cformed_k hf with hk | hk | hk | hk
   ·rw [if_neg (by omega), if_neg (by omega), if_neg (by omega)]; exact rcput_0 h hl hB x ok hf hk
   ·rw [if_pos hk]; exact rcput_1 h hl hB x ok hf hk
   ·rw [if_neg (by omega), if_pos hk];obtain ⟨_, _, h3, h4, h5, h6⟩ := cformed_2 hf hk;exact rcput_2 h hl hB x ok hf hk x.g.toNat (by omega) (by omega) h6
   ·rw [if_neg (by omega), if_neg (by omega), if_pos hk];obtain ⟨_, _, h3, h4⟩ := cformed_3 hf hk
    cases hy : x.y with
    | false => exact rcput_3f h hl hB x ok hf hk x.g.toNat (by omega) (by omega) hy
    | true => exact rcput_3t h hl hB x ok hf hk x.g.toNat (by omega) (by omega) hy
end Go.Proofs.YthclniimhpmeoaaGreatDoor
