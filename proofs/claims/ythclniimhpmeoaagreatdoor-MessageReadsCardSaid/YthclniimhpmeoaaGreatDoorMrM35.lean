import Derived.Test.YthclniimhpmeoaaGreatDoorMrM34
set_option maxHeartbeats 6400000
set_option linter.unusedSimpArgs false
set_option linter.unusedVariables false
namespace Go.Proofs.YthclniimhpmeoaaGreatDoor
set_option maxRecDepth 20000
open Go.RowKit T
theorem rtput_no {w : World} {B : Nat} {v : Value} {l : List UInt8} (h : SlB w B v l) (hl : l.length ≤ 4294967296) (hB : B ≤ w.heap.size) (s q : Int) (rs : List Rd1) (ws : List Wr1) (A1 : Option Addr) (c1 : Nat) (A2 : Option Addr) (c2 : Nat) (ok : TxOk w w.heap.size rs ws A1 c1 A2 c2) (hf : formed s q rs ws = false) : Calls Tryz.prog 88 #[v, .agg #[.int .i64 s, .int .i64 q, .slice A1 rs.length c1, .slice A2 ws.length c2]] w (MadeB w l) := by
 have HR := Lib.hid ok.r;have HW := Lib.hid ok.w;have HRO := Lib.hid ok.ro;have HWO := Lib.hid ok.wo;have q1 := ok.rc;have q2 := ok.wc;have q3 := ok.rm;have q4 := ok.wm;unfold maxLen at q3 q4;have HF := Lib.hid (fun z (hz : Below w.heap.size w z) => rtformed_any s q rs ws A1 c1 A2 c2 z w.heap.size hz.size (ok.below hz (Nat.le_refl _)));rw [hf] at HF;clear ok;obtain ⟨n1, hn1⟩ : ∃ n, n = rs.length := ⟨_, rfl⟩;obtain ⟨n2, hn2⟩ : ∃ n, n = ws.length := ⟨_, rfl⟩;have HN1 := Lib.hid hn1;have HN2 := Lib.hid hn2;rw [← hn1, ← hn2] at HF ⊢;rw [← hn1] at q1;rw [← hn2] at q2;clear hn1 hn2;clear hf;obtain ⟨i0, hi, hz0, hz1, hz2⟩ := info_parts info_u8;obtain ⟨vA, vc, rfl, hvc, hvm, hA, hvr⟩ := h;obtain ⟨m, hm⟩ : ∃ m, m = l.length := ⟨_, rfl⟩;have HM := Lib.hid hm;(have hml : m ≤ 4294967296 := by rw [hm]; exact hl);rw [← hm] at hvc ⊢;clear hm;unfold maxLen at hvm;obtain ⟨w0, hw0⟩ : ∃ w0, w0 = w.alloc (.cells [.int .i64 s, .int .i64 q, .slice A1 n1 c1, .slice A2 n2 c2].toArray 30) := ⟨_, rfl⟩;(have ee : Below w.heap.size w w0 := by rw [hw0]; exact (Below.refl _ _).alloc (Nat.le_refl _) _);(have Zt : w0.heap[w.heap.size]? = some (.cells [.int .i64 s, .int .i64 q, .slice A1 n1 c1, .slice A2 n2 c2].toArray 30) := by rw [hw0]; exact hpN _ _ rfl)
 go_enter Tryz.func88, Tryz.ntmps88
 go_upto_region 1 with fail
 rw [← hw0];clear hw0
 go_upto_region 2 with fail
 refine wp_region_lit ?_;(iterate 6 go_step);refine wpList_append_rd _ rfl (.tmp 8) (.tmp 9) 34 rfl w.heap.size 5 i0 (.int .u8 0) 1 Tryz.underlying34 hi hz0 hz1 hz2 rfl _ _ _ rfl (World.ownsRow_nil _ _ _ _) B vA m vc (bc l) rfl (by rw [bc_len, HM.out]) (fun h => (hA h).2) (hvr.belowM ee hB) (bc_one l) (by unfold maxLen; omega) (by omega) ee.size ?_;intro v1 z1 ho_ hg_;have t := belowNone hg_;have Zt := hpB Zt t;have ee := bU ee t;(have ho : z1.ownsRow w.heap.size 5 1 v1 l.length (bc l) := by rw [← HM.out]; simpa using ho_);clear ho_ hg_ t;(iterate 3 go_step)
 go_upto_region 3 with fail
 refine wp_region_lit ?_
 iterate 27 (first | with_reducible refine isLoad (ty := 30) rfl ?_ | go_step)
 refine wpList_load_mid rfl 30 _ rfl (w.heap.size) 0 rfl ([.int .i64 s, .int .i64 q, .slice A1 n1 c1, .slice A2 n2 c2]) _ (rowAt Zt) Tryz.underlying30 rfl sizeTx ?_
 go_wp2_with fail
 refine (HF.out z1 ee).mono ?_;rintro e z2 ⟨rfl, t⟩;have ho := ownBelow ho t;have Zt := hpB Zt t;have ee := bU ee t;clear t
 go_wp2_with fail
 go_ret
 exact ⟨_, rfl, ho, ee⟩
theorem rtput_yes {w : World} {B : Nat} {v : Value} {l : List UInt8} (h : SlB w B v l) (hl : l.length ≤ 4294967296) (hB : B ≤ w.heap.size) (s q : Int) (rs : List Rd1) (ws : List Wr1) (A1 : Option Addr) (c1 : Nat) (A2 : Option Addr) (c2 : Nat) (ok : TxOk w w.heap.size rs ws A1 c1 A2 c2) (hf : formed s q rs ws = true) : Calls Tryz.prog 88 #[v, .agg #[.int .i64 s, .int .i64 q, .slice A1 rs.length c1, .slice A2 ws.length c2]] w (MadeB w (ws.foldl wput (C.put (rs.foldl rput (C.put (idput l s q) rs.length 1)) ws.length 1))) := by
 obtain ⟨hi9, hr6, hw6⟩ := formed_few hf;have HR := Lib.hid ok.r;have HW := Lib.hid ok.w;have HRO := Lib.hid ok.ro;have HWO := Lib.hid ok.wo;have q1 := ok.rc;have q2 := ok.wc;have q3 := ok.rm;have q4 := ok.wm;unfold maxLen at q3 q4;have HF := Lib.hid (fun z (hz : Below w.heap.size w z) => rtformed_any s q rs ws A1 c1 A2 c2 z w.heap.size hz.size (ok.below hz (Nat.le_refl _)));rw [hf] at HF;clear ok;obtain ⟨n1, hn1⟩ : ∃ n, n = rs.length := ⟨_, rfl⟩;obtain ⟨n2, hn2⟩ : ∃ n, n = ws.length := ⟨_, rfl⟩;have HN1 := Lib.hid hn1;have HN2 := Lib.hid hn2;rw [← hn1, ← hn2] at HF ⊢;rw [← hn1] at q1;rw [← hn2] at q2;clear hn1 hn2;rw [← HN1.out] at hr6;rw [← HN2.out] at hw6;have HL1 := idput_len l s q;have HL2 := put_len2 (idput l s q) n1 1;have k1 : IntKind.u8.wrap (n1 : Int) = (n1 : Int) := wrap8 (by omega);have k2 : IntKind.u8.wrap (n2 : Int) = (n2 : Int) := wrap8 (by omega);clear hi9 hf;obtain ⟨i0, hi, hz0, hz1, hz2⟩ := info_parts info_u8;obtain ⟨vA, vc, rfl, hvc, hvm, hA, hvr⟩ := h;obtain ⟨m, hm⟩ : ∃ m, m = l.length := ⟨_, rfl⟩;have HM := Lib.hid hm;(have hml : m ≤ 4294967296 := by rw [hm]; exact hl);rw [← hm] at hvc ⊢;clear hm;unfold maxLen at hvm;obtain ⟨w0, hw0⟩ : ∃ w0, w0 = w.alloc (.cells [.int .i64 s, .int .i64 q, .slice A1 n1 c1, .slice A2 n2 c2].toArray 30) := ⟨_, rfl⟩;(have ee : Below w.heap.size w w0 := by rw [hw0]; exact (Below.refl _ _).alloc (Nat.le_refl _) _);(have Zt : w0.heap[w.heap.size]? = some (.cells [.int .i64 s, .int .i64 q, .slice A1 n1 c1, .slice A2 n2 c2].toArray 30) := by rw [hw0]; exact hpN _ _ rfl)
 go_enter Tryz.func88, Tryz.ntmps88
 go_upto_region 1 with fail
 rw [← hw0];clear hw0
 go_upto_region 2 with fail
 refine wp_region_lit ?_;(iterate 6 go_step);refine wpList_append_rd _ rfl (.tmp 8) (.tmp 9) 34 rfl w.heap.size 5 i0 (.int .u8 0) 1 Tryz.underlying34 hi hz0 hz1 hz2 rfl _ _ _ rfl (World.ownsRow_nil _ _ _ _) B vA m vc (bc l) rfl (by rw [bc_len, HM.out]) (fun h => (hA h).2) (hvr.belowM ee hB) (bc_one l) (by unfold maxLen; omega) (by omega) ee.size ?_;intro v1 z1 ho_ hg_;have t := belowNone hg_;have Zt := hpB Zt t;have ee := bU ee t;(have ho : z1.ownsRow w.heap.size 5 1 v1 l.length (bc l) := by rw [← HM.out]; simpa using ho_);clear ho_ hg_ t;(iterate 3 go_step)
 go_upto_region 3 with fail
 refine wp_region_lit ?_
 iterate 27 (first | with_reducible refine isLoad (ty := 30) rfl ?_ | go_step)
 refine wpList_load_mid rfl 30 _ rfl (w.heap.size) 0 rfl ([.int .i64 s, .int .i64 q, .slice A1 n1 c1, .slice A2 n2 c2]) _ (rowAt Zt) Tryz.underlying30 rfl sizeTx ?_
 go_wp2_with fail
 refine (HF.out z1 ee).mono ?_;rintro e z2 ⟨rfl, t⟩;have ho := ownBelow ho t;have Zt := hpB Zt t;have ee := bU ee t;clear t;clear HF;have x0 := rowCell Zt 0 rfl;have x1 := rowCell Zt 1 rfl
 go_wp2_with fail
 have sz_ := ee.size;refine (rputid_s (SlB.ofOwn ho) (by omega) (Nat.le_refl _) s q).mono ?_;rintro e z3 ⟨v2, rfl, on_, t⟩;clear ho;have ho := ownMore on_ sz_;clear on_ sz_;have Zt := hpB Zt t;have ee := bU ee t;clear t;clear x0 x1;have x2 := rowCell Zt 2 (v := .slice A1 n1 c1) rfl
 go_upto_region 6 with fail
 refine wp_region_lit ?_;(iterate 18 go_step);have lZt := (Array.getElem?_eq_some_iff.1 Zt).1;have Zt := hpA Zt (.cells #[.int .u8 (n1 : Int)] 5);have sz_ := ee.size;have ho := ho.alloc (.cells #[.int .u8 (n1 : Int)] 5);have ee := ee.alloc ee.size (.cells #[.int .u8 (n1 : Int)] 5);have ZN := hpN z3 (.cells #[.int .u8 (n1 : Int)] 5) rfl;generalize z3.alloc (.cells #[.int .u8 (n1 : Int)] 5) = z4 at ho ZN Zt ee ⊢;refine wpList_append_own _ rfl (.tmp 19) (.tmp 24) 34 rfl w.heap.size 5 i0 (.int .u8 0) 1 1 Tryz.underlying34 hi hz0 hz1 hz2 rfl (by decide) _ _ _ rfl ho ⟨z3.heap.size, 0, none⟩ 1 1 [.int .u8 (n1 : Int)] rfl rfl (rowAdd (cs := [.int .u8 (n1 : Int)]) ZN) (by simp [Value.oneCell']) (by unfold maxLen; omega) (by omega) ee.size ?_;intro v3 z5 ho_ hg_ _;clear ZN sz_;have Zt := heapOwn Zt ho (by decide) hg_;have ee := ee.grown hg_ ee.size (fun g hg => (ho.lt g hg).1);clear ho hg_;have ho : z5.ownsRow w.heap.size 5 1 v3 (C.put (idput l s q) n1 1).length (bc (C.put (idput l s q) n1 1)) := byteOwn ho_ (by omega);clear ho_;clear x2
 go_wp2_with fail
 go_loopw [5, 6] (fun u i wr => ∃ (k : Nat) (vv : Value), k ≤ n1 ∧ i = .int .i64 (k : Int) ∧ u = vv ∧ wr.ownsRow w.heap.size 5 1 vv ((rs.take k).foldl rput (C.put (idput l s q) n1 1)).length (bc ((rs.take k).foldl rput (C.put (idput l s q) n1 1))) ∧ Hid (wr.heap[w.heap.size]? = some (.cells [.int .i64 s, .int .i64 q, .slice A1 n1 c1, .slice A2 n2 c2].toArray 30)) ∧ Hid (Below w.heap.size w wr)) (fun _ i _ => n1 - (intOf i).toNat)
 case atStart => exact ⟨0, v3, Nat.zero_le _, rfl, rfl, ho, Zt, ee⟩
 case round =>
  clear Zt ee ho;obtain ⟨k, vv, hk, rfl, hu, ho, Zt, ee⟩ := hrel;have hu := hu.symm;subst hu;have Zt := Zt.out;have ee := ee.out
  by_cases hlt : k < n1
  ·(have hkl : k < rs.length := by rw [← HN1.out]; exact hlt);obtain ⟨bo, off, rfl, hbo, hr⟩ := rowsGet HR.out hkl;have HX : Hid (okR (rs[k]'hkl)) := HRO.out _ (List.getElem_mem hkl)
   have HK : Hid (((rs.take (k + 1)).foldl rput (C.put (idput l s q) n1 1)) = rput (((rs.take k).foldl rput (C.put (idput l s q) n1 1))) (rs[k]'hkl)) := by
    show _ = _;rw [List.take_succ_eq_append_getElem hkl, List.foldl_append]; rfl
   have hlen := rfold_len (rs.take k) (C.put (idput l s q) n1 1);(have hlt6 : (rs.take k).length ≤ 6 := by rw [List.length_take]; omega);generalize (rs.take k).foldl rput (C.put (idput l s q) n1 1) = lk at ho HK hlen;generalize rs[k] = x at hr HX HK;(have hb0 : (0 : Int) ≤ (k : Int) := by omega);(have hb1 : (k : Int) < (n1 : Int) := by omega);obtain ⟨xk, xv⟩ := x;have hx1 := HX.out.1;have hx2 := HX.out.2;simp only at hx1 hx2;have hpl := puttext_len lk xk;(have hsz : (⟨xk.toArray⟩ : ByteArray).size ≤ 9223372036854775807 := by simpa [ByteArray.size] using hx1);have x2 := rowCell Zt 2 (v := .slice (some ⟨bo, off, none⟩) n1 c1) rfl;have y0 := rangeCell (rangeB hr ee hbo) 0 (v := .string ⟨xk.toArray⟩) rfl;rw [Nat.add_zero] at y0
   go_wp2_with fail
   have sz_ := ee.size;refine (rputtext_o ho (by omega) _ hsz).mono ?_;rintro e z26 ⟨v4, rfl, on_, t⟩;clear ho;have ho := ownMore on_ sz_;clear on_ sz_;have Zt := hpB Zt t;have ee := bU ee t;clear t;clear x2 y0;have x2 := rowCell Zt 2 (v := .slice (some ⟨bo, off, none⟩) n1 c1) rfl;have y1 := rangeCell (rangeB hr ee hbo) 1 (v := .int .u64 (xv : Int)) rfl
   go_wp2_with fail
   have sz_ := ee.size;refine (rput_o ho (by show (C.putText lk xk).length ≤ _; omega) xv hx2 8 (by omega) (by omega)).mono ?_;rintro e z27 ⟨v5, rfl, on_, t⟩;clear ho;have ho := ownMore on_ sz_;clear on_ sz_;have Zt := hpB Zt t;have ee := bU ee t;clear t;clear y1;clear x2
   go_wp2_with fail
   go_roundw
   case rel => exact ⟨k + 1, _, by omega, by go_num, rfl, by rw [HK.out]; exact ho, Zt, ee⟩
   case measure => simp [intOf]; omega
  ·(obtain rfl : n1 = k := by omega);(have htk : rs.take n1 = rs := by rw [HN1.out]; exact List.take_length);rw [htk] at ho;clear htk hlt k1;have hlr := rfold_len rs (C.put (idput l s q) n1 1);rw [← HN1.out] at hlr;obtain ⟨lr, hlr0⟩ : ∃ lr, lr = rs.foldl rput (C.put (idput l s q) n1 1) := ⟨_, rfl⟩;have HLR := Lib.hid hlr0;rw [← hlr0] at ho hlr;clear hlr0;have HL3 := put_len2 lr n2 1;have x2 := rowCell Zt 2 rfl
   go_upto_region 12 with fail
   clear x2;have x3 := rowCell Zt 3 (v := .slice A2 n2 c2) rfl;refine wp_region_lit ?_;(iterate 18 go_step);have lZt := (Array.getElem?_eq_some_iff.1 Zt).1;have Zt := hpA Zt (.cells #[.int .u8 (n2 : Int)] 5);have sz_ := ee.size;have ho := ho.alloc (.cells #[.int .u8 (n2 : Int)] 5);have ee := ee.alloc ee.size (.cells #[.int .u8 (n2 : Int)] 5);have ZN := hpN wr (.cells #[.int .u8 (n2 : Int)] 5) rfl;generalize wr.alloc (.cells #[.int .u8 (n2 : Int)] 5) = z26 at ho ZN Zt ee ⊢;refine wpList_append_own _ rfl (.tmp 49) (.tmp 54) 34 rfl w.heap.size 5 i0 (.int .u8 0) 1 1 Tryz.underlying34 hi hz0 hz1 hz2 rfl (by decide) _ _ _ rfl ho ⟨wr.heap.size, 0, none⟩ 1 1 [.int .u8 (n2 : Int)] rfl rfl (rowAdd (cs := [.int .u8 (n2 : Int)]) ZN) (by simp [Value.oneCell']) (by unfold maxLen; omega) (by omega) ee.size ?_;intro v6 z27 ho_ hg_ _;clear ZN sz_;have Zt := heapOwn Zt ho (by decide) hg_;have ee := ee.grown hg_ ee.size (fun g hg => (ho.lt g hg).1);clear ho hg_;have ho : z27.ownsRow w.heap.size 5 1 v6 (C.put lr n2 1).length (bc (C.put lr n2 1)) := byteOwn ho_ (by omega);clear ho_;clear x3 k2
   go_wp2_with fail
   go_loopw [5, 7] (fun u i wr => ∃ (k : Nat) (vv : Value), k ≤ n2 ∧ i = .int .i64 (k : Int) ∧ u = vv ∧ wr.ownsRow w.heap.size 5 1 vv ((ws.take k).foldl wput (C.put lr n2 1)).length (bc ((ws.take k).foldl wput (C.put lr n2 1))) ∧ Hid (wr.heap[w.heap.size]? = some (.cells [.int .i64 s, .int .i64 q, .slice A1 n1 c1, .slice A2 n2 c2].toArray 30)) ∧ Hid (Below w.heap.size w wr)) (fun _ i _ => n2 - (intOf i).toNat)
   case atStart => exact ⟨0, v6, Nat.zero_le _, rfl, rfl, ho, Zt, ee⟩
   case round =>
    clear Zt ee ho;obtain ⟨k, vv, hk, rfl, hu, ho, Zt, ee⟩ := hrel;have hu := hu.symm;subst hu;have Zt := Zt.out;have ee := ee.out
    by_cases hlt : k < n2
    ·(have hkl : k < ws.length := by rw [← HN2.out]; exact hlt);obtain ⟨bo, off, rfl, hbo, hr⟩ := rowsGet HW.out hkl;have HX : Hid (okW (ws[k]'hkl)) := HWO.out _ (List.getElem_mem hkl)
     have HK : Hid (((ws.take (k + 1)).foldl wput (C.put lr n2 1)) = wput (((ws.take k).foldl wput (C.put lr n2 1))) (ws[k]'hkl)) := by
      show _ = _;rw [List.take_succ_eq_append_getElem hkl, List.foldl_append]; rfl
     have hlen := wfold_len (ws.take k) (C.put lr n2 1);(have hlt6 : (ws.take k).length ≤ 6 := by rw [List.length_take]; omega);generalize (ws.take k).foldl wput (C.put lr n2 1) = lk at ho HK hlen;generalize ws[k] = x at hr HX HK;(have hb0 : (0 : Int) ≤ (k : Int) := by omega);(have hb1 : (k : Int) < (n2 : Int) := by omega);obtain ⟨xk, xi, xb, xt⟩ := x;have hx1 := HX.out.1;have hx2 := HX.out.2.1;have hx3 := HX.out.2.2;simp only at hx1 hx2 hx3;have hpl := puttext_len lk xk;(have hsz : (⟨xk.toArray⟩ : ByteArray).size ≤ 9223372036854775807 := by simpa [ByteArray.size] using hx1);(have hst : (⟨xt.toArray⟩ : ByteArray).size ≤ 9223372036854775807 := by simpa [ByteArray.size] using hx3);have x3 := rowCell Zt 3 (v := .slice (some ⟨bo, off, none⟩) n2 c2) rfl;have y0 := rangeCell (rangeB hr ee hbo) 0 (v := .string ⟨xk.toArray⟩) rfl;rw [Nat.add_zero] at y0
     go_wp2_with fail
     have sz_ := ee.size;refine (rputtext_o ho (by omega) _ hsz).mono ?_;rintro e z48 ⟨v7, rfl, on_, t⟩;clear ho;have ho := ownMore on_ sz_;clear on_ sz_;have Zt := hpB Zt t;have ee := bU ee t;clear t;clear x3 y0;have x3 := rowCell Zt 3 (v := .slice (some ⟨bo, off, none⟩) n2 c2) rfl;have y1 := rangeCell (rangeB hr ee hbo) 1 (v := .int .i64 xi) rfl;have y2 := rangeCell (rangeB hr ee hbo) 2 (v := .int .u64 (xb : Int)) rfl;have y3 := rangeCell (rangeB hr ee hbo) 3 (v := .string ⟨xt.toArray⟩) rfl
     go_wp2_with fail
     have sz_ := ee.size;refine (rvput_o ho (by show (C.putText lk xk).length ≤ _; omega) xi xb _ hx2 hst).mono ?_;rintro e z49 ⟨v8, rfl, on_, t⟩;clear ho;have ho := ownMore on_ sz_;clear on_ sz_;have Zt := hpB Zt t;have ee := bU ee t;clear t;clear y1 y2 y3;clear x3
     go_wp2_with fail
     go_roundw
     case rel => exact ⟨k + 1, _, by omega, by go_num, rfl, by rw [HK.out]; exact ho, Zt, ee⟩
     case measure => simp [intOf]; omega
    ·(obtain rfl : n2 = k := by omega);(have htk : ws.take n2 = ws := by rw [HN2.out]; exact List.take_length);rw [htk, HLR.out] at ho;clear htk hlt;have x3 := rowCell Zt 3 rfl
     go_wp2_with fail
     go_ret
     exact ⟨_, rfl, ho, ee⟩
theorem rtput_s {w : World} {B : Nat} {v : Value} {l : List UInt8} (h : SlB w B v l) (hl : l.length ≤ 4294967296) (hB : B ≤ w.heap.size) (s q : Int) (rs : List Rd1) (ws : List Wr1) (A1 : Option Addr) (c1 : Nat) (A2 : Option Addr) (c2 : Nat) (ok : TxOk w w.heap.size rs ws A1 c1 A2 c2) : Calls Tryz.prog 88 #[v, .agg #[.int .i64 s, .int .i64 q, .slice A1 rs.length c1, .slice A2 ws.length c2]] w (MadeB w (tput l s q rs ws)) := by
 unfold tput
 cases hf : formed s q rs ws with
 | false => exact rtput_no h hl hB s q rs ws A1 c1 A2 c2 ok hf
 | true => exact rtput_yes h hl hB s q rs ws A1 c1 A2 c2 ok hf
end Go.Proofs.YthclniimhpmeoaaGreatDoor
