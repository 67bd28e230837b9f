/- message.Write. Conditions: what lies, lies below. (Printed by gen_msg.py.) -/
import Derived.Test.YtjofjpmhokjhnaaDoorMbM23
import Derived.Test.YtjofjpmhokjhnaaDoorMbM19
import Derived.Test.YtjofjpmhokjhnaaDoorMbM13
import Derived.Test.YtjofjpmhokjhnaaDoorMbM22
namespace Go.Proofs.YtjofjpmhokjhnaaDoor
set_option maxRecDepth 20000
open Go.RowKit T
set_option linter.unusedSimpArgs false
set_option linter.unusedVariables false

set_option maxHeartbeats 3200000 in
theorem cput_no {w : World} {B : Nat} {v : Value} {l : List UInt8} (h : SlB w B v l) (hl : l.length ≤ 2147483648) (hB : B ≤ w.heap.size) (x : Cm) (ok : CmOk w w.heap.size x) (hT : Tabs w) (hf : x.formed = false) : Calls Tryd.prog 64 #[v, .agg x.cells.toArray] w (GotB w l) := by
 have HT := Lib.hid hT
 have HF := Lib.hid (fun z (hz : Below w.heap.size w z) => cformed_any x.k x.s x.q x.rs x.ws x.A1 x.c1 x.A2 x.c2 x.i x.j x.g x.st x.y z w.heap.size hz.size (ok.below hz (Nat.le_refl _)) (hT.below hz))
 have HFE : Hid (x.formed = T.cformed x.k x.s x.q x.rs x.ws x.i x.j x.g x.st x.y) := rfl
 rw [← HFE.out, hf] at HF
 have HO := Lib.hid ok
 clear hT ok hf HFE
 obtain ⟨w0, hw0⟩ : ∃ w0, w0 = w.alloc (.cells x.cells.toArray 33) := ⟨_, rfl⟩
 have ee : Below w.heap.size w w0 := by rw [hw0]; exact (Below.refl _ _).alloc (Nat.le_refl _) _
 have Zt : w0.heap[w.heap.size]? = some (.cells x.cells.toArray 33) := by rw [hw0]; exact hpN _ _ rfl
 have H := Lib.hid h
 clear h
 go_enter Tryd.func64, Tryd.ntmps64
 go_upto_region 1 with fail
 rw [← hw0]
 clear hw0
 refine wp_region_lit ?_
 refine wpList_load_mid rfl 33 _ rfl (w.heap.size) 0 rfl x.cells _ (rowAt Zt) Tryd.underlying33 rfl sizeCm ?_
 go_wp2_with fail
 refine (HF.out w0 ee).mono ?_
 rintro e z1 ⟨rfl, t⟩
 have Zt := hpB Zt t
 have ee := ee.trans (t.mono ee.size)
 clear t
 clear HF
 go_wp2_with fail
 have sz_ := ee.size
 refine (clone_s (H.out.belowM ee hB) (by omega) (Nat.le_trans hB ee.size)).mono ?_
 rintro e z2 ⟨v2, rfl, h2, t, fr⟩
 have fr := Fresh.mono fr sz_
 clear sz_
 have Zt := hpB Zt t
 have ee := ee.trans (t.mono ee.size)
 clear t
 go_wp2_with fail
 go_ret
 exact ⟨v2, rfl, h2, ee, fr⟩
set_option maxHeartbeats 3200000 in
theorem cput_0 {w : World} {B : Nat} {v : Value} {l : List UInt8} (h : SlB w B v l) (hl : l.length ≤ 2147483648) (hB : B ≤ w.heap.size) (x : Cm) (ok : CmOk w w.heap.size x) (hT : Tabs w) (hf : x.formed = true) (hk : x.k = 0) : Calls Tryd.prog 64 #[v, .agg x.cells.toArray] w (GotB w (C.put l 0 1)) := by
 have HX0 : Hid (x.cells[0]? = some (.int .i64 0)) := by show _ = _; rw [← hk]; rfl
 have HT := Lib.hid hT
 have HF := Lib.hid (fun z (hz : Below w.heap.size w z) => cformed_any x.k x.s x.q x.rs x.ws x.A1 x.c1 x.A2 x.c2 x.i x.j x.g x.st x.y z w.heap.size hz.size (ok.below hz (Nat.le_refl _)) (hT.below hz))
 have HFE : Hid (x.formed = T.cformed x.k x.s x.q x.rs x.ws x.i x.j x.g x.st x.y) := rfl
 rw [← HFE.out, hf] at HF
 have HO := Lib.hid ok
 clear hT ok hf HFE
 have HL1 := put_len2 l 0 1
 obtain ⟨w0, hw0⟩ : ∃ w0, w0 = w.alloc (.cells x.cells.toArray 33) := ⟨_, rfl⟩
 have ee : Below w.heap.size w w0 := by rw [hw0]; exact (Below.refl _ _).alloc (Nat.le_refl _) _
 have Zt : w0.heap[w.heap.size]? = some (.cells x.cells.toArray 33) := by rw [hw0]; exact hpN _ _ rfl
 have H := Lib.hid h
 clear h
 go_enter Tryd.func64, Tryd.ntmps64
 go_upto_region 1 with fail
 rw [← hw0]
 clear hw0
 refine wp_region_lit ?_
 refine wpList_load_mid rfl 33 _ rfl (w.heap.size) 0 rfl x.cells _ (rowAt Zt) Tryd.underlying33 rfl sizeCm ?_
 go_wp2_with fail
 refine (HF.out w0 ee).mono ?_
 rintro e z1 ⟨rfl, t⟩
 have Zt := hpB Zt t
 have ee := ee.trans (t.mono ee.size)
 clear t
 clear HF
 have x0 := rowCell Zt 0 (v := .int .i64 0) (by rw [← hk]; rfl)
 clear hk
 go_wp2_with fail
 have sz_ := ee.size
 refine (put_s (H.out.belowM ee hB) (by omega) (Nat.le_trans hB ee.size) 0 (by omega) 1).mono ?_
 rintro e z2 ⟨v1, rfl, g1, t, fr⟩
 have fr := Fresh.mono fr sz_
 clear sz_
 have Zt := hpB Zt t
 have ee := ee.trans (t.mono ee.size)
 clear t
 have x0 := rowCell Zt 0 (v := .int .i64 0) HX0.out
 go_wp2_with fail
 go_ret
 exact ⟨v1, rfl, g1, ee, fr⟩
set_option maxHeartbeats 3200000 in
theorem cput_1 {w : World} {B : Nat} {v : Value} {l : List UInt8} (h : SlB w B v l) (hl : l.length ≤ 2147483648) (hB : B ≤ w.heap.size) (x : Cm) (ok : CmOk w w.heap.size x) (hT : Tabs w) (hf : x.formed = true) (hk : x.k = 1) : Calls Tryd.prog 64 #[v, .agg x.cells.toArray] w (GotB w (tput (C.put l 1 1) x.s x.q x.rs x.ws)) := by
 have HX0 : Hid (x.cells[0]? = some (.int .i64 1)) := by show _ = _; rw [← hk]; rfl
 have HT := Lib.hid hT
 have HF := Lib.hid (fun z (hz : Below w.heap.size w z) => cformed_any x.k x.s x.q x.rs x.ws x.A1 x.c1 x.A2 x.c2 x.i x.j x.g x.st x.y z w.heap.size hz.size (ok.below hz (Nat.le_refl _)) (hT.below hz))
 have HFE : Hid (x.formed = T.cformed x.k x.s x.q x.rs x.ws x.i x.j x.g x.st x.y) := rfl
 rw [← HFE.out, hf] at HF
 have HO := Lib.hid ok
 clear hT ok hf HFE
 have HL1 := put_len2 l 1 1
 obtain ⟨w0, hw0⟩ : ∃ w0, w0 = w.alloc (.cells x.cells.toArray 33) := ⟨_, rfl⟩
 have ee : Below w.heap.size w w0 := by rw [hw0]; exact (Below.refl _ _).alloc (Nat.le_refl _) _
 have Zt : w0.heap[w.heap.size]? = some (.cells x.cells.toArray 33) := by rw [hw0]; exact hpN _ _ rfl
 have H := Lib.hid h
 clear h
 go_enter Tryd.func64, Tryd.ntmps64
 go_upto_region 1 with fail
 rw [← hw0]
 clear hw0
 refine wp_region_lit ?_
 refine wpList_load_mid rfl 33 _ rfl (w.heap.size) 0 rfl x.cells _ (rowAt Zt) Tryd.underlying33 rfl sizeCm ?_
 go_wp2_with fail
 refine (HF.out w0 ee).mono ?_
 rintro e z1 ⟨rfl, t⟩
 have Zt := hpB Zt t
 have ee := ee.trans (t.mono ee.size)
 clear t
 clear HF
 have x0 := rowCell Zt 0 (v := .int .i64 1) (by rw [← hk]; rfl)
 clear hk
 go_wp2_with fail
 have sz_ := ee.size
 refine (put_s (H.out.belowM ee hB) (by omega) (Nat.le_trans hB ee.size) 1 (by omega) 1).mono ?_
 rintro e z2 ⟨v1, rfl, g1, t, fr⟩
 have fr := Fresh.mono fr sz_
 clear sz_
 have Zt := hpB Zt t
 have ee := ee.trans (t.mono ee.size)
 clear t
 have x0 := rowCell Zt 0 (v := .int .i64 1) HX0.out
 go_upto_region 6 with fail
 refine wp_region_lit ?_
 iterate 27 (first | with_reducible refine isLoad (ty := 30) rfl ?_ | go_step)
 refine wpList_load_mid rfl 30 _ rfl (w.heap.size) 1 rfl ([.int .i64 x.s, .int .i64 x.q, .slice x.A1 x.rs.length x.c1, .slice x.A2 x.ws.length x.c2]) _ (rowMid Zt 1 (by intro j v hj; match j, hj with | 0, hj => exact hj | 1, hj => exact hj | 2, hj => exact hj | 3, hj => exact hj)) Tryd.underlying30 rfl sizeTx ?_
 clear x0
 go_wp2_with fail
 have sz_ := ee.size
 refine (tput_s g1 (by omega) (Nat.le_refl _) x.s x.q x.rs x.ws x.A1 x.c1 x.A2 x.c2 (TxOk.more (TxOk.below HO.out ee (Nat.le_refl _)) ee.size) (HT.out.below ee)).mono ?_
 rintro e z3 ⟨v2, rfl, g2, t, fr⟩
 have fr := Fresh.mono fr sz_
 clear sz_
 have Zt := hpB Zt t
 have ee := ee.trans (t.mono ee.size)
 clear t
 go_wp2_with fail
 go_ret
 exact ⟨v2, rfl, g2, ee, fr⟩
set_option maxHeartbeats 3200000 in
theorem cput_2 {w : World} {B : Nat} {v : Value} {l : List UInt8} (h : SlB w B v l) (hl : l.length ≤ 2147483648) (hB : B ≤ w.heap.size) (x : Cm) (ok : CmOk w w.heap.size x) (hT : Tabs w) (hf : x.formed = true) (hk : x.k = 2) (gn : Nat) (hg : x.g = (gn : Int)) (hg4 : gn < 4) (hst : x.st < 9223372036854775808) : Calls Tryd.prog 64 #[v, .agg x.cells.toArray] w (GotB w (C.put (C.put (idput (C.put l 2 1) x.i x.j) gn 1) x.st 8)) := by
 have HX0 : Hid (x.cells[0]? = some (.int .i64 2)) := by show _ = _; rw [← hk]; rfl
 have HX7 : Hid (x.cells[7]? = some (.int .i64 (gn : Int))) := by show _ = _; rw [← hg]; rfl
 have HL2 := idput_len (C.put l 2 1) x.i x.j
 have HL3 := put_len2 (idput (C.put l 2 1) x.i x.j) gn 1
 have k1 : IntKind.u64.wrap (gn : Int) = (gn : Int) := wrapOf (by omega)
 clear hg
 have HT := Lib.hid hT
 have HF := Lib.hid (fun z (hz : Below w.heap.size w z) => cformed_any x.k x.s x.q x.rs x.ws x.A1 x.c1 x.A2 x.c2 x.i x.j x.g x.st x.y z w.heap.size hz.size (ok.below hz (Nat.le_refl _)) (hT.below hz))
 have HFE : Hid (x.formed = T.cformed x.k x.s x.q x.rs x.ws x.i x.j x.g x.st x.y) := rfl
 rw [← HFE.out, hf] at HF
 have HO := Lib.hid ok
 clear hT ok hf HFE
 have HL1 := put_len2 l 2 1
 obtain ⟨w0, hw0⟩ : ∃ w0, w0 = w.alloc (.cells x.cells.toArray 33) := ⟨_, rfl⟩
 have ee : Below w.heap.size w w0 := by rw [hw0]; exact (Below.refl _ _).alloc (Nat.le_refl _) _
 have Zt : w0.heap[w.heap.size]? = some (.cells x.cells.toArray 33) := by rw [hw0]; exact hpN _ _ rfl
 have H := Lib.hid h
 clear h
 go_enter Tryd.func64, Tryd.ntmps64
 go_upto_region 1 with fail
 rw [← hw0]
 clear hw0
 refine wp_region_lit ?_
 refine wpList_load_mid rfl 33 _ rfl (w.heap.size) 0 rfl x.cells _ (rowAt Zt) Tryd.underlying33 rfl sizeCm ?_
 go_wp2_with fail
 refine (HF.out w0 ee).mono ?_
 rintro e z1 ⟨rfl, t⟩
 have Zt := hpB Zt t
 have ee := ee.trans (t.mono ee.size)
 clear t
 clear HF
 have x0 := rowCell Zt 0 (v := .int .i64 2) (by rw [← hk]; rfl)
 clear hk
 go_wp2_with fail
 have sz_ := ee.size
 refine (put_s (H.out.belowM ee hB) (by omega) (Nat.le_trans hB ee.size) 2 (by omega) 1).mono ?_
 rintro e z2 ⟨v1, rfl, g1, t, fr⟩
 have fr := Fresh.mono fr sz_
 clear sz_
 have Zt := hpB Zt t
 have ee := ee.trans (t.mono ee.size)
 clear t
 have x0 := rowCell Zt 0 (v := .int .i64 2) HX0.out
 go_upto_region 8 with fail
 clear x0
 have g1 : SlB z2.drew z2.drew.heap.size v1 (C.put l 2 1) := g1.drew
 have Zt : z2.drew.heap[w.heap.size]? = some (.cells x.cells.toArray 33) := Zt
 have ee := belowDrewS ee
 refine wp_region_held_drew (S := fun z' => z'.rangeAt w.heap.size 5 [.int .i64 x.i, .int .i64 x.j] ∧ z'.cell? ⟨w.heap.size, 7, none⟩ = some (.int .i64 (gn : Int)) ∧ z'.cell? ⟨w.heap.size, 8, none⟩ = some (.int .u64 (x.st : Int))) (by kernel_rfl) ⟨rowMid Zt 5 (by intro j v hj; match j, hj with | 0, hj => exact hj | 1, hj => exact hj), rowCell Zt 7 HX7.out, rowCell Zt 8 rfl⟩ (fun hH => ?_)
 clear hH
 generalize z2.drew = z3 at Zt g1 ee ⊢
 refine wpAnyH_take (i := 0) (v := v1) rfl (by kernel_rfl) (by kernel_rfl) (by kernel_rfl) (fun _ _ _ h => h) (Or.inl ⟨by rfl, fun w_ hS_ => by (first | (go_simp; done) | (go_simp; rfl))⟩) ⟨rowMid Zt 5 (by intro j v hj; match j, hj with | 0, hj => exact hj | 1, hj => exact hj), rowCell Zt 7 HX7.out, rowCell Zt 8 rfl⟩ ?_
 try simp only [Act.put, List.getElem_toArray, List.getElem_cons_zero, List.getElem_cons_succ, List.setIfInBounds_toArray, List.set_cons_zero, List.set_cons_succ]
 refine wpAnyH_take (i := 1) (v := .pointer (some ⟨w.heap.size, 5, none⟩)) rfl (by kernel_rfl) (by kernel_rfl) (by kernel_rfl) (fun _ _ _ h => h) (Or.inl ⟨by rfl, fun w_ hS_ => by (first | (go_simp; done) | (go_simp; rfl))⟩) ⟨rowMid Zt 5 (by intro j v hj; match j, hj with | 0, hj => exact hj | 1, hj => exact hj), rowCell Zt 7 HX7.out, rowCell Zt 8 rfl⟩ ?_
 try simp only [Act.put, List.getElem_toArray, List.getElem_cons_zero, List.getElem_cons_succ, List.setIfInBounds_toArray, List.set_cons_zero, List.set_cons_succ]
 refine wpAnyH_take (i := 2) (v := .agg ([.int .i64 x.i, .int .i64 x.j]).toArray) rfl (by kernel_rfl) (by kernel_rfl) (by kernel_rfl) (fun _ _ _ h => h) (yieldsIf_load_mid (by rfl) 26 _ rfl (w.heap.size) (5) rfl ([.int .i64 x.i, .int .i64 x.j]) _ (fun _ h => h.1) Tryd.underlying26 rfl sizeId) ⟨rowMid Zt 5 (by intro j v hj; match j, hj with | 0, hj => exact hj | 1, hj => exact hj), rowCell Zt 7 HX7.out, rowCell Zt 8 rfl⟩ ?_
 try simp only [Act.put, List.getElem_toArray, List.getElem_cons_zero, List.getElem_cons_succ, List.setIfInBounds_toArray, List.set_cons_zero, List.set_cons_succ]
 refine wpAnyH_take (i := 4) (v := .pointer (some ⟨w.heap.size, 7, none⟩)) rfl (by kernel_rfl) (by kernel_rfl) (by kernel_rfl) (fun _ _ _ h => h) (Or.inl ⟨by rfl, fun w_ hS_ => by (first | (go_simp; done) | (go_simp; rfl))⟩) ⟨rowMid Zt 5 (by intro j v hj; match j, hj with | 0, hj => exact hj | 1, hj => exact hj), rowCell Zt 7 HX7.out, rowCell Zt 8 rfl⟩ ?_
 try simp only [Act.put, List.getElem_toArray, List.getElem_cons_zero, List.getElem_cons_succ, List.setIfInBounds_toArray, List.set_cons_zero, List.set_cons_succ]
 refine wpAnyH_take (i := 5) (v := .int .i64 (gn : Int)) rfl (by kernel_rfl) (by kernel_rfl) (by kernel_rfl) (fun _ _ _ h => h) (Or.inl ⟨by rfl, fun w_ hS_ => by (obtain ⟨h1_, h2_, h3_⟩ := hS_; go_simp)⟩) ⟨rowMid Zt 5 (by intro j v hj; match j, hj with | 0, hj => exact hj | 1, hj => exact hj), rowCell Zt 7 HX7.out, rowCell Zt 8 rfl⟩ ?_
 try simp only [Act.put, List.getElem_toArray, List.getElem_cons_zero, List.getElem_cons_succ, List.setIfInBounds_toArray, List.set_cons_zero, List.set_cons_succ]
 refine wpAnyH_take (i := 6) (v := .int .u64 (gn : Int)) rfl (by kernel_rfl) (by kernel_rfl) (by kernel_rfl) (fun _ _ _ h => h) (Or.inl ⟨by rfl, fun w_ hS_ => by (go_simp; first | done | (rw [k1]))⟩) ⟨rowMid Zt 5 (by intro j v hj; match j, hj with | 0, hj => exact hj | 1, hj => exact hj), rowCell Zt 7 HX7.out, rowCell Zt 8 rfl⟩ ?_
 try simp only [Act.put, List.getElem_toArray, List.getElem_cons_zero, List.getElem_cons_succ, List.setIfInBounds_toArray, List.set_cons_zero, List.set_cons_succ]
 refine wpAnyH_take (i := 8) (v := .pointer (some ⟨w.heap.size, 8, none⟩)) rfl (by kernel_rfl) (by kernel_rfl) (by kernel_rfl) (fun _ _ _ h => h) (Or.inl ⟨by rfl, fun w_ hS_ => by (first | (go_simp; done) | (go_simp; rfl))⟩) ⟨rowMid Zt 5 (by intro j v hj; match j, hj with | 0, hj => exact hj | 1, hj => exact hj), rowCell Zt 7 HX7.out, rowCell Zt 8 rfl⟩ ?_
 try simp only [Act.put, List.getElem_toArray, List.getElem_cons_zero, List.getElem_cons_succ, List.setIfInBounds_toArray, List.set_cons_zero, List.set_cons_succ]
 refine wpAnyH_take (i := 9) (v := .int .u64 (x.st : Int)) rfl (by kernel_rfl) (by kernel_rfl) (by kernel_rfl) (fun _ _ _ h => h) (Or.inl ⟨by rfl, fun w_ hS_ => by (obtain ⟨h1_, h2_, h3_⟩ := hS_; go_simp)⟩) ⟨rowMid Zt 5 (by intro j v hj; match j, hj with | 0, hj => exact hj | 1, hj => exact hj), rowCell Zt 7 HX7.out, rowCell Zt 8 rfl⟩ ?_
 try simp only [Act.put, List.getElem_toArray, List.getElem_cons_zero, List.getElem_cons_succ, List.setIfInBounds_toArray, List.set_cons_zero, List.set_cons_succ]
 refine wpAnyH_ready (rs := [3]) (by kernel_rfl) (by simp) ?_
 refine AllReadyH.cons rfl (fun K hK => ?_) AllReadyH.nil
 rw [if_pos (by rfl)]
 go_simp
 have sz_ := ee.size
 go_wp2_with (go_at_call 66; refine (putid_s g1 (by omega) (Nat.le_refl _) x.i x.j).mono ?_; rintro e z4 ⟨v2, rfl, g2, t, fr⟩)
 have fr := Fresh.mono fr sz_
 clear sz_
 have Zt := hpB Zt t
 have ee := ee.trans (t.mono ee.size)
 clear t
 refine hK.out _ _ ⟨rowMid Zt 5 (by intro j v hj; match j, hj with | 0, hj => exact hj | 1, hj => exact hj), rowCell Zt 7 HX7.out, rowCell Zt 8 rfl⟩ (fun hH => ?_)
 clear hK K hH
 try simp only [Act.put, List.getElem_toArray, List.getElem_cons_zero, List.getElem_cons_succ, List.setIfInBounds_toArray, List.set_cons_zero, List.set_cons_succ]
 refine wpAnyH_ready (rs := [7]) (by kernel_rfl) (by simp) ?_
 refine AllReadyH.cons rfl (fun K hK => ?_) AllReadyH.nil
 rw [if_pos (by rfl)]
 go_simp
 have sz_ := ee.size
 go_wp2_with (go_at_call 61; refine (put_s g2 (by omega) (Nat.le_refl _) gn (by omega) 1).mono ?_; rintro e z5 ⟨v3, rfl, g3, t, fr⟩)
 have fr := Fresh.mono fr sz_
 clear sz_
 have Zt := hpB Zt t
 have ee := ee.trans (t.mono ee.size)
 clear t
 refine hK.out _ _ ⟨rowMid Zt 5 (by intro j v hj; match j, hj with | 0, hj => exact hj | 1, hj => exact hj), rowCell Zt 7 HX7.out, rowCell Zt 8 rfl⟩ (fun hH => ?_)
 clear hK K hH
 try simp only [Act.put, List.getElem_toArray, List.getElem_cons_zero, List.getElem_cons_succ, List.setIfInBounds_toArray, List.set_cons_zero, List.set_cons_succ]
 refine wpAnyH_ready (rs := [10]) (by kernel_rfl) (by simp) ?_
 refine AllReadyH.cons rfl (fun K hK => ?_) AllReadyH.nil
 rw [if_pos (by rfl)]
 go_simp
 have sz_ := ee.size
 go_wp2_with (go_at_call 61; refine (put_s g3 (by omega) (Nat.le_refl _) x.st (by omega) 8).mono ?_; rintro e z6 ⟨v4, rfl, g4, t, fr⟩)
 have fr := Fresh.mono fr sz_
 clear sz_
 have Zt := hpB Zt t
 have ee := ee.trans (t.mono ee.size)
 clear t
 refine hK.out _ _ ⟨rowMid Zt 5 (by intro j v hj; match j, hj with | 0, hj => exact hj | 1, hj => exact hj), rowCell Zt 7 HX7.out, rowCell Zt 8 rfl⟩ (fun hH => ?_)
 clear hK K hH
 try simp only [Act.put, List.getElem_toArray, List.getElem_cons_zero, List.getElem_cons_succ, List.setIfInBounds_toArray, List.set_cons_zero, List.set_cons_succ]
 refine wpAnyH_take (i := 11) (v := v4) rfl (by kernel_rfl) (by kernel_rfl) (by kernel_rfl) (fun _ _ _ h => h) (Or.inl ⟨by rfl, fun w_ hS_ => by (first | (go_simp; done) | (go_simp; rfl))⟩) ⟨rowMid Zt 5 (by intro j v hj; match j, hj with | 0, hj => exact hj | 1, hj => exact hj), rowCell Zt 7 HX7.out, rowCell Zt 8 rfl⟩ ?_
 try simp only [Act.put, List.getElem_toArray, List.getElem_cons_zero, List.getElem_cons_succ, List.setIfInBounds_toArray, List.set_cons_zero, List.set_cons_succ]
 refine wpAnyH_done (by kernel_rfl) ?_ _
 go_wp2_with fail
 go_ret
 exact ⟨v4, rfl, g4, ee, fr⟩
set_option maxHeartbeats 3200000 in
theorem cput_3f {w : World} {B : Nat} {v : Value} {l : List UInt8} (h : SlB w B v l) (hl : l.length ≤ 2147483648) (hB : B ≤ w.heap.size) (x : Cm) (ok : CmOk w w.heap.size x) (hT : Tabs w) (hf : x.formed = true) (hk : x.k = 3) (gn : Nat) (hg : x.g = (gn : Int)) (hg4 : gn < 4) (hy : x.y = false) : Calls Tryd.prog 64 #[v, .agg x.cells.toArray] w (GotB w (C.put (C.put (idput (C.put l 3 1) x.i x.j) gn 1) 0 1)) := by
 have HX0 : Hid (x.cells[0]? = some (.int .i64 3)) := by show _ = _; rw [← hk]; rfl
 have HX9 : Hid (x.cells[9]? = some (.bool false)) := by show _ = _; rw [← hy]; rfl
 clear hy
 have HX7 : Hid (x.cells[7]? = some (.int .i64 (gn : Int))) := by show _ = _; rw [← hg]; rfl
 have HL2 := idput_len (C.put l 3 1) x.i x.j
 have HL3 := put_len2 (idput (C.put l 3 1) x.i x.j) gn 1
 have k1 : IntKind.u64.wrap (gn : Int) = (gn : Int) := wrapOf (by omega)
 clear hg
 have HT := Lib.hid hT
 have HF := Lib.hid (fun z (hz : Below w.heap.size w z) => cformed_any x.k x.s x.q x.rs x.ws x.A1 x.c1 x.A2 x.c2 x.i x.j x.g x.st x.y z w.heap.size hz.size (ok.below hz (Nat.le_refl _)) (hT.below hz))
 have HFE : Hid (x.formed = T.cformed x.k x.s x.q x.rs x.ws x.i x.j x.g x.st x.y) := rfl
 rw [← HFE.out, hf] at HF
 have HO := Lib.hid ok
 clear hT ok hf HFE
 have HL1 := put_len2 l 3 1
 obtain ⟨w0, hw0⟩ : ∃ w0, w0 = w.alloc (.cells x.cells.toArray 33) := ⟨_, rfl⟩
 have ee : Below w.heap.size w w0 := by rw [hw0]; exact (Below.refl _ _).alloc (Nat.le_refl _) _
 have Zt : w0.heap[w.heap.size]? = some (.cells x.cells.toArray 33) := by rw [hw0]; exact hpN _ _ rfl
 have H := Lib.hid h
 clear h
 go_enter Tryd.func64, Tryd.ntmps64
 go_upto_region 1 with fail
 rw [← hw0]
 clear hw0
 refine wp_region_lit ?_
 refine wpList_load_mid rfl 33 _ rfl (w.heap.size) 0 rfl x.cells _ (rowAt Zt) Tryd.underlying33 rfl sizeCm ?_
 go_wp2_with fail
 refine (HF.out w0 ee).mono ?_
 rintro e z1 ⟨rfl, t⟩
 have Zt := hpB Zt t
 have ee := ee.trans (t.mono ee.size)
 clear t
 clear HF
 have x0 := rowCell Zt 0 (v := .int .i64 3) (by rw [← hk]; rfl)
 clear hk
 go_wp2_with fail
 have sz_ := ee.size
 refine (put_s (H.out.belowM ee hB) (by omega) (Nat.le_trans hB ee.size) 3 (by omega) 1).mono ?_
 rintro e z2 ⟨v1, rfl, g1, t, fr⟩
 have fr := Fresh.mono fr sz_
 clear sz_
 have Zt := hpB Zt t
 have ee := ee.trans (t.mono ee.size)
 clear t
 have x0 := rowCell Zt 0 (v := .int .i64 3) HX0.out
 have x9 := rowCell Zt 9 (v := .bool false) HX9.out
 go_upto_region 13 with fail
 clear x0 x9
 have g1 : SlB z2.drew z2.drew.heap.size v1 (C.put l 3 1) := g1.drew
 have Zt : z2.drew.heap[w.heap.size]? = some (.cells x.cells.toArray 33) := Zt
 have ee := belowDrewS ee
 refine wp_region_held_drew (S := fun z' => z'.rangeAt w.heap.size 5 [.int .i64 x.i, .int .i64 x.j] ∧ z'.cell? ⟨w.heap.size, 7, none⟩ = some (.int .i64 (gn : Int))) (by kernel_rfl) ⟨rowMid Zt 5 (by intro j v hj; match j, hj with | 0, hj => exact hj | 1, hj => exact hj), rowCell Zt 7 HX7.out⟩ (fun hH => ?_)
 clear hH
 generalize z2.drew = z3 at Zt g1 ee ⊢
 refine wpAnyH_take (i := 0) (v := v1) rfl (by kernel_rfl) (by kernel_rfl) (by kernel_rfl) (fun _ _ _ h => h) (Or.inl ⟨by rfl, fun w_ hS_ => by (first | (go_simp; done) | (go_simp; rfl))⟩) ⟨rowMid Zt 5 (by intro j v hj; match j, hj with | 0, hj => exact hj | 1, hj => exact hj), rowCell Zt 7 HX7.out⟩ ?_
 try simp only [Act.put, List.getElem_toArray, List.getElem_cons_zero, List.getElem_cons_succ, List.setIfInBounds_toArray, List.set_cons_zero, List.set_cons_succ]
 refine wpAnyH_take (i := 1) (v := .pointer (some ⟨w.heap.size, 5, none⟩)) rfl (by kernel_rfl) (by kernel_rfl) (by kernel_rfl) (fun _ _ _ h => h) (Or.inl ⟨by rfl, fun w_ hS_ => by (first | (go_simp; done) | (go_simp; rfl))⟩) ⟨rowMid Zt 5 (by intro j v hj; match j, hj with | 0, hj => exact hj | 1, hj => exact hj), rowCell Zt 7 HX7.out⟩ ?_
 try simp only [Act.put, List.getElem_toArray, List.getElem_cons_zero, List.getElem_cons_succ, List.setIfInBounds_toArray, List.set_cons_zero, List.set_cons_succ]
 refine wpAnyH_take (i := 2) (v := .agg ([.int .i64 x.i, .int .i64 x.j]).toArray) rfl (by kernel_rfl) (by kernel_rfl) (by kernel_rfl) (fun _ _ _ h => h) (yieldsIf_load_mid (by rfl) 26 _ rfl (w.heap.size) (5) rfl ([.int .i64 x.i, .int .i64 x.j]) _ (fun _ h => h.1) Tryd.underlying26 rfl sizeId) ⟨rowMid Zt 5 (by intro j v hj; match j, hj with | 0, hj => exact hj | 1, hj => exact hj), rowCell Zt 7 HX7.out⟩ ?_
 try simp only [Act.put, List.getElem_toArray, List.getElem_cons_zero, List.getElem_cons_succ, List.setIfInBounds_toArray, List.set_cons_zero, List.set_cons_succ]
 refine wpAnyH_take (i := 4) (v := .pointer (some ⟨w.heap.size, 7, none⟩)) rfl (by kernel_rfl) (by kernel_rfl) (by kernel_rfl) (fun _ _ _ h => h) (Or.inl ⟨by rfl, fun w_ hS_ => by (first | (go_simp; done) | (go_simp; rfl))⟩) ⟨rowMid Zt 5 (by intro j v hj; match j, hj with | 0, hj => exact hj | 1, hj => exact hj), rowCell Zt 7 HX7.out⟩ ?_
 try simp only [Act.put, List.getElem_toArray, List.getElem_cons_zero, List.getElem_cons_succ, List.setIfInBounds_toArray, List.set_cons_zero, List.set_cons_succ]
 refine wpAnyH_take (i := 5) (v := .int .i64 (gn : Int)) rfl (by kernel_rfl) (by kernel_rfl) (by kernel_rfl) (fun _ _ _ h => h) (Or.inl ⟨by rfl, fun w_ hS_ => by (obtain ⟨h1_, h2_⟩ := hS_; go_simp)⟩) ⟨rowMid Zt 5 (by intro j v hj; match j, hj with | 0, hj => exact hj | 1, hj => exact hj), rowCell Zt 7 HX7.out⟩ ?_
 try simp only [Act.put, List.getElem_toArray, List.getElem_cons_zero, List.getElem_cons_succ, List.setIfInBounds_toArray, List.set_cons_zero, List.set_cons_succ]
 refine wpAnyH_take (i := 6) (v := .int .u64 (gn : Int)) rfl (by kernel_rfl) (by kernel_rfl) (by kernel_rfl) (fun _ _ _ h => h) (Or.inl ⟨by rfl, fun w_ hS_ => by (go_simp; first | done | (rw [k1]))⟩) ⟨rowMid Zt 5 (by intro j v hj; match j, hj with | 0, hj => exact hj | 1, hj => exact hj), rowCell Zt 7 HX7.out⟩ ?_
 try simp only [Act.put, List.getElem_toArray, List.getElem_cons_zero, List.getElem_cons_succ, List.setIfInBounds_toArray, List.set_cons_zero, List.set_cons_succ]
 refine wpAnyH_take (i := 8) (v := .int .u64 0) rfl (by kernel_rfl) (by kernel_rfl) (by kernel_rfl) (fun _ _ _ h => h) (Or.inl ⟨by rfl, fun w_ hS_ => by (first | (go_simp; done) | (go_simp; rfl))⟩) ⟨rowMid Zt 5 (by intro j v hj; match j, hj with | 0, hj => exact hj | 1, hj => exact hj), rowCell Zt 7 HX7.out⟩ ?_
 try simp only [Act.put, List.getElem_toArray, List.getElem_cons_zero, List.getElem_cons_succ, List.setIfInBounds_toArray, List.set_cons_zero, List.set_cons_succ]
 refine wpAnyH_ready (rs := [3]) (by kernel_rfl) (by simp) ?_
 refine AllReadyH.cons rfl (fun K hK => ?_) AllReadyH.nil
 rw [if_pos (by rfl)]
 go_simp
 have sz_ := ee.size
 go_wp2_with (go_at_call 66; refine (putid_s g1 (by omega) (Nat.le_refl _) x.i x.j).mono ?_; rintro e z4 ⟨v2, rfl, g2, t, fr⟩)
 have fr := Fresh.mono fr sz_
 clear sz_
 have Zt := hpB Zt t
 have ee := ee.trans (t.mono ee.size)
 clear t
 refine hK.out _ _ ⟨rowMid Zt 5 (by intro j v hj; match j, hj with | 0, hj => exact hj | 1, hj => exact hj), rowCell Zt 7 HX7.out⟩ (fun hH => ?_)
 clear hK K hH
 try simp only [Act.put, List.getElem_toArray, List.getElem_cons_zero, List.getElem_cons_succ, List.setIfInBounds_toArray, List.set_cons_zero, List.set_cons_succ]
 refine wpAnyH_ready (rs := [7]) (by kernel_rfl) (by simp) ?_
 refine AllReadyH.cons rfl (fun K hK => ?_) AllReadyH.nil
 rw [if_pos (by rfl)]
 go_simp
 have sz_ := ee.size
 go_wp2_with (go_at_call 61; refine (put_s g2 (by omega) (Nat.le_refl _) gn (by omega) 1).mono ?_; rintro e z5 ⟨v3, rfl, g3, t, fr⟩)
 have fr := Fresh.mono fr sz_
 clear sz_
 have Zt := hpB Zt t
 have ee := ee.trans (t.mono ee.size)
 clear t
 refine hK.out _ _ ⟨rowMid Zt 5 (by intro j v hj; match j, hj with | 0, hj => exact hj | 1, hj => exact hj), rowCell Zt 7 HX7.out⟩ (fun hH => ?_)
 clear hK K hH
 try simp only [Act.put, List.getElem_toArray, List.getElem_cons_zero, List.getElem_cons_succ, List.setIfInBounds_toArray, List.set_cons_zero, List.set_cons_succ]
 refine wpAnyH_ready (rs := [9]) (by kernel_rfl) (by simp) ?_
 refine AllReadyH.cons rfl (fun K hK => ?_) AllReadyH.nil
 rw [if_pos (by rfl)]
 go_simp
 have sz_ := ee.size
 go_wp2_with (go_at_call 61; refine (put_s g3 (by omega) (Nat.le_refl _) 0 (by omega) 1).mono ?_; rintro e z6 ⟨v4, rfl, g4, t, fr⟩)
 have fr := Fresh.mono fr sz_
 clear sz_
 have Zt := hpB Zt t
 have ee := ee.trans (t.mono ee.size)
 clear t
 refine hK.out _ _ ⟨rowMid Zt 5 (by intro j v hj; match j, hj with | 0, hj => exact hj | 1, hj => exact hj), rowCell Zt 7 HX7.out⟩ (fun hH => ?_)
 clear hK K hH
 try simp only [Act.put, List.getElem_toArray, List.getElem_cons_zero, List.getElem_cons_succ, List.setIfInBounds_toArray, List.set_cons_zero, List.set_cons_succ]
 refine wpAnyH_take (i := 10) (v := v4) rfl (by kernel_rfl) (by kernel_rfl) (by kernel_rfl) (fun _ _ _ h => h) (Or.inl ⟨by rfl, fun w_ hS_ => by (first | (go_simp; done) | (go_simp; rfl))⟩) ⟨rowMid Zt 5 (by intro j v hj; match j, hj with | 0, hj => exact hj | 1, hj => exact hj), rowCell Zt 7 HX7.out⟩ ?_
 try simp only [Act.put, List.getElem_toArray, List.getElem_cons_zero, List.getElem_cons_succ, List.setIfInBounds_toArray, List.set_cons_zero, List.set_cons_succ]
 refine wpAnyH_done (by kernel_rfl) ?_ _
 go_wp2_with fail
 go_ret
 exact ⟨v4, rfl, g4, ee, fr⟩
set_option maxHeartbeats 3200000 in
theorem cput_3t {w : World} {B : Nat} {v : Value} {l : List UInt8} (h : SlB w B v l) (hl : l.length ≤ 2147483648) (hB : B ≤ w.heap.size) (x : Cm) (ok : CmOk w w.heap.size x) (hT : Tabs w) (hf : x.formed = true) (hk : x.k = 3) (gn : Nat) (hg : x.g = (gn : Int)) (hg4 : gn < 4) (hy : x.y = true) : Calls Tryd.prog 64 #[v, .agg x.cells.toArray] w (GotB w (C.put (C.put (idput (C.put l 3 1) x.i x.j) gn 1) 1 1)) := by
 have HX0 : Hid (x.cells[0]? = some (.int .i64 3)) := by show _ = _; rw [← hk]; rfl
 have HX9 : Hid (x.cells[9]? = some (.bool true)) := by show _ = _; rw [← hy]; rfl
 clear hy
 have HX7 : Hid (x.cells[7]? = some (.int .i64 (gn : Int))) := by show _ = _; rw [← hg]; rfl
 have HL2 := idput_len (C.put l 3 1) x.i x.j
 have HL3 := put_len2 (idput (C.put l 3 1) x.i x.j) gn 1
 have k1 : IntKind.u64.wrap (gn : Int) = (gn : Int) := wrapOf (by omega)
 clear hg
 have HT := Lib.hid hT
 have HF := Lib.hid (fun z (hz : Below w.heap.size w z) => cformed_any x.k x.s x.q x.rs x.ws x.A1 x.c1 x.A2 x.c2 x.i x.j x.g x.st x.y z w.heap.size hz.size (ok.below hz (Nat.le_refl _)) (hT.below hz))
 have HFE : Hid (x.formed = T.cformed x.k x.s x.q x.rs x.ws x.i x.j x.g x.st x.y) := rfl
 rw [← HFE.out, hf] at HF
 have HO := Lib.hid ok
 clear hT ok hf HFE
 have HL1 := put_len2 l 3 1
 obtain ⟨w0, hw0⟩ : ∃ w0, w0 = w.alloc (.cells x.cells.toArray 33) := ⟨_, rfl⟩
 have ee : Below w.heap.size w w0 := by rw [hw0]; exact (Below.refl _ _).alloc (Nat.le_refl _) _
 have Zt : w0.heap[w.heap.size]? = some (.cells x.cells.toArray 33) := by rw [hw0]; exact hpN _ _ rfl
 have H := Lib.hid h
 clear h
 go_enter Tryd.func64, Tryd.ntmps64
 go_upto_region 1 with fail
 rw [← hw0]
 clear hw0
 refine wp_region_lit ?_
 refine wpList_load_mid rfl 33 _ rfl (w.heap.size) 0 rfl x.cells _ (rowAt Zt) Tryd.underlying33 rfl sizeCm ?_
 go_wp2_with fail
 refine (HF.out w0 ee).mono ?_
 rintro e z1 ⟨rfl, t⟩
 have Zt := hpB Zt t
 have ee := ee.trans (t.mono ee.size)
 clear t
 clear HF
 have x0 := rowCell Zt 0 (v := .int .i64 3) (by rw [← hk]; rfl)
 clear hk
 go_wp2_with fail
 have sz_ := ee.size
 refine (put_s (H.out.belowM ee hB) (by omega) (Nat.le_trans hB ee.size) 3 (by omega) 1).mono ?_
 rintro e z2 ⟨v1, rfl, g1, t, fr⟩
 have fr := Fresh.mono fr sz_
 clear sz_
 have Zt := hpB Zt t
 have ee := ee.trans (t.mono ee.size)
 clear t
 have x0 := rowCell Zt 0 (v := .int .i64 3) HX0.out
 have x9 := rowCell Zt 9 (v := .bool true) HX9.out
 go_upto_region 13 with fail
 clear x0 x9
 have g1 : SlB z2.drew z2.drew.heap.size v1 (C.put l 3 1) := g1.drew
 have Zt : z2.drew.heap[w.heap.size]? = some (.cells x.cells.toArray 33) := Zt
 have ee := belowDrewS ee
 refine wp_region_held_drew (S := fun z' => z'.rangeAt w.heap.size 5 [.int .i64 x.i, .int .i64 x.j] ∧ z'.cell? ⟨w.heap.size, 7, none⟩ = some (.int .i64 (gn : Int))) (by kernel_rfl) ⟨rowMid Zt 5 (by intro j v hj; match j, hj with | 0, hj => exact hj | 1, hj => exact hj), rowCell Zt 7 HX7.out⟩ (fun hH => ?_)
 clear hH
 generalize z2.drew = z3 at Zt g1 ee ⊢
 refine wpAnyH_take (i := 0) (v := v1) rfl (by kernel_rfl) (by kernel_rfl) (by kernel_rfl) (fun _ _ _ h => h) (Or.inl ⟨by rfl, fun w_ hS_ => by (first | (go_simp; done) | (go_simp; rfl))⟩) ⟨rowMid Zt 5 (by intro j v hj; match j, hj with | 0, hj => exact hj | 1, hj => exact hj), rowCell Zt 7 HX7.out⟩ ?_
 try simp only [Act.put, List.getElem_toArray, List.getElem_cons_zero, List.getElem_cons_succ, List.setIfInBounds_toArray, List.set_cons_zero, List.set_cons_succ]
 refine wpAnyH_take (i := 1) (v := .pointer (some ⟨w.heap.size, 5, none⟩)) rfl (by kernel_rfl) (by kernel_rfl) (by kernel_rfl) (fun _ _ _ h => h) (Or.inl ⟨by rfl, fun w_ hS_ => by (first | (go_simp; done) | (go_simp; rfl))⟩) ⟨rowMid Zt 5 (by intro j v hj; match j, hj with | 0, hj => exact hj | 1, hj => exact hj), rowCell Zt 7 HX7.out⟩ ?_
 try simp only [Act.put, List.getElem_toArray, List.getElem_cons_zero, List.getElem_cons_succ, List.setIfInBounds_toArray, List.set_cons_zero, List.set_cons_succ]
 refine wpAnyH_take (i := 2) (v := .agg ([.int .i64 x.i, .int .i64 x.j]).toArray) rfl (by kernel_rfl) (by kernel_rfl) (by kernel_rfl) (fun _ _ _ h => h) (yieldsIf_load_mid (by rfl) 26 _ rfl (w.heap.size) (5) rfl ([.int .i64 x.i, .int .i64 x.j]) _ (fun _ h => h.1) Tryd.underlying26 rfl sizeId) ⟨rowMid Zt 5 (by intro j v hj; match j, hj with | 0, hj => exact hj | 1, hj => exact hj), rowCell Zt 7 HX7.out⟩ ?_
 try simp only [Act.put, List.getElem_toArray, List.getElem_cons_zero, List.getElem_cons_succ, List.setIfInBounds_toArray, List.set_cons_zero, List.set_cons_succ]
 refine wpAnyH_take (i := 4) (v := .pointer (some ⟨w.heap.size, 7, none⟩)) rfl (by kernel_rfl) (by kernel_rfl) (by kernel_rfl) (fun _ _ _ h => h) (Or.inl ⟨by rfl, fun w_ hS_ => by (first | (go_simp; done) | (go_simp; rfl))⟩) ⟨rowMid Zt 5 (by intro j v hj; match j, hj with | 0, hj => exact hj | 1, hj => exact hj), rowCell Zt 7 HX7.out⟩ ?_
 try simp only [Act.put, List.getElem_toArray, List.getElem_cons_zero, List.getElem_cons_succ, List.setIfInBounds_toArray, List.set_cons_zero, List.set_cons_succ]
 refine wpAnyH_take (i := 5) (v := .int .i64 (gn : Int)) rfl (by kernel_rfl) (by kernel_rfl) (by kernel_rfl) (fun _ _ _ h => h) (Or.inl ⟨by rfl, fun w_ hS_ => by (obtain ⟨h1_, h2_⟩ := hS_; go_simp)⟩) ⟨rowMid Zt 5 (by intro j v hj; match j, hj with | 0, hj => exact hj | 1, hj => exact hj), rowCell Zt 7 HX7.out⟩ ?_
 try simp only [Act.put, List.getElem_toArray, List.getElem_cons_zero, List.getElem_cons_succ, List.setIfInBounds_toArray, List.set_cons_zero, List.set_cons_succ]
 refine wpAnyH_take (i := 6) (v := .int .u64 (gn : Int)) rfl (by kernel_rfl) (by kernel_rfl) (by kernel_rfl) (fun _ _ _ h => h) (Or.inl ⟨by rfl, fun w_ hS_ => by (go_simp; first | done | (rw [k1]))⟩) ⟨rowMid Zt 5 (by intro j v hj; match j, hj with | 0, hj => exact hj | 1, hj => exact hj), rowCell Zt 7 HX7.out⟩ ?_
 try simp only [Act.put, List.getElem_toArray, List.getElem_cons_zero, List.getElem_cons_succ, List.setIfInBounds_toArray, List.set_cons_zero, List.set_cons_succ]
 refine wpAnyH_take (i := 8) (v := .int .u64 1) rfl (by kernel_rfl) (by kernel_rfl) (by kernel_rfl) (fun _ _ _ h => h) (Or.inl ⟨by rfl, fun w_ hS_ => by (first | (go_simp; done) | (go_simp; rfl))⟩) ⟨rowMid Zt 5 (by intro j v hj; match j, hj with | 0, hj => exact hj | 1, hj => exact hj), rowCell Zt 7 HX7.out⟩ ?_
 try simp only [Act.put, List.getElem_toArray, List.getElem_cons_zero, List.getElem_cons_succ, List.setIfInBounds_toArray, List.set_cons_zero, List.set_cons_succ]
 refine wpAnyH_ready (rs := [3]) (by kernel_rfl) (by simp) ?_
 refine AllReadyH.cons rfl (fun K hK => ?_) AllReadyH.nil
 rw [if_pos (by rfl)]
 go_simp
 have sz_ := ee.size
 go_wp2_with (go_at_call 66; refine (putid_s g1 (by omega) (Nat.le_refl _) x.i x.j).mono ?_; rintro e z4 ⟨v2, rfl, g2, t, fr⟩)
 have fr := Fresh.mono fr sz_
 clear sz_
 have Zt := hpB Zt t
 have ee := ee.trans (t.mono ee.size)
 clear t
 refine hK.out _ _ ⟨rowMid Zt 5 (by intro j v hj; match j, hj with | 0, hj => exact hj | 1, hj => exact hj), rowCell Zt 7 HX7.out⟩ (fun hH => ?_)
 clear hK K hH
 try simp only [Act.put, List.getElem_toArray, List.getElem_cons_zero, List.getElem_cons_succ, List.setIfInBounds_toArray, List.set_cons_zero, List.set_cons_succ]
 refine wpAnyH_ready (rs := [7]) (by kernel_rfl) (by simp) ?_
 refine AllReadyH.cons rfl (fun K hK => ?_) AllReadyH.nil
 rw [if_pos (by rfl)]
 go_simp
 have sz_ := ee.size
 go_wp2_with (go_at_call 61; refine (put_s g2 (by omega) (Nat.le_refl _) gn (by omega) 1).mono ?_; rintro e z5 ⟨v3, rfl, g3, t, fr⟩)
 have fr := Fresh.mono fr sz_
 clear sz_
 have Zt := hpB Zt t
 have ee := ee.trans (t.mono ee.size)
 clear t
 refine hK.out _ _ ⟨rowMid Zt 5 (by intro j v hj; match j, hj with | 0, hj => exact hj | 1, hj => exact hj), rowCell Zt 7 HX7.out⟩ (fun hH => ?_)
 clear hK K hH
 try simp only [Act.put, List.getElem_toArray, List.getElem_cons_zero, List.getElem_cons_succ, List.setIfInBounds_toArray, List.set_cons_zero, List.set_cons_succ]
 refine wpAnyH_ready (rs := [9]) (by kernel_rfl) (by simp) ?_
 refine AllReadyH.cons rfl (fun K hK => ?_) AllReadyH.nil
 rw [if_pos (by rfl)]
 go_simp
 have sz_ := ee.size
 go_wp2_with (go_at_call 61; refine (put_s g3 (by omega) (Nat.le_refl _) 1 (by omega) 1).mono ?_; rintro e z6 ⟨v4, rfl, g4, t, fr⟩)
 have fr := Fresh.mono fr sz_
 clear sz_
 have Zt := hpB Zt t
 have ee := ee.trans (t.mono ee.size)
 clear t
 refine hK.out _ _ ⟨rowMid Zt 5 (by intro j v hj; match j, hj with | 0, hj => exact hj | 1, hj => exact hj), rowCell Zt 7 HX7.out⟩ (fun hH => ?_)
 clear hK K hH
 try simp only [Act.put, List.getElem_toArray, List.getElem_cons_zero, List.getElem_cons_succ, List.setIfInBounds_toArray, List.set_cons_zero, List.set_cons_succ]
 refine wpAnyH_take (i := 10) (v := v4) rfl (by kernel_rfl) (by kernel_rfl) (by kernel_rfl) (fun _ _ _ h => h) (Or.inl ⟨by rfl, fun w_ hS_ => by (first | (go_simp; done) | (go_simp; rfl))⟩) ⟨rowMid Zt 5 (by intro j v hj; match j, hj with | 0, hj => exact hj | 1, hj => exact hj), rowCell Zt 7 HX7.out⟩ ?_
 try simp only [Act.put, List.getElem_toArray, List.getElem_cons_zero, List.getElem_cons_succ, List.setIfInBounds_toArray, List.set_cons_zero, List.set_cons_succ]
 refine wpAnyH_done (by kernel_rfl) ?_ _
 go_wp2_with fail
 go_ret
 exact ⟨v4, rfl, g4, ee, fr⟩
theorem cput_s {w : World} {B : Nat} {v : Value} {l : List UInt8} (h : SlB w B v l) (hl : l.length ≤ 2147483648) (hB : B ≤ w.heap.size) (x : Cm) (ok : CmOk w w.heap.size x) (hT : Tabs w) : Calls Tryd.prog 64 #[v, .agg x.cells.toArray] w (GotB w (cput l x)) := by
 unfold cput
 cases hf : x.formed with
 | false => exact cput_no h hl hB x ok hT hf
 | true =>
  rw [cond_true]
  rcases cformed_k hf with hk | hk | hk | hk
  ·rw [if_neg (by omega), if_neg (by omega), if_neg (by omega)]; exact cput_0 h hl hB x ok hT hf hk
  ·rw [if_pos hk]; exact cput_1 h hl hB x ok hT hf hk
  ·rw [if_neg (by omega), if_pos hk]
   obtain ⟨_, _, h3, h4, h5, h6⟩ := cformed_2 hf hk
   exact cput_2 h hl hB x ok hT hf hk x.g.toNat (by omega) (by omega) h6
  ·rw [if_neg (by omega), if_neg (by omega), if_pos hk]
   obtain ⟨_, _, h3, h4⟩ := cformed_3 hf hk
   cases hy : x.y with
   | false => exact cput_3f h hl hB x ok hT hf hk x.g.toNat (by omega) (by omega) hy
   | true => exact cput_3t h hl hB x ok hT hf hk x.g.toNat (by omega) (by omega) hy
end Go.Proofs.YtjofjpmhokjhnaaDoor

namespace Go.Proofs.YtjofjpmhokjhnaaDoor
set_option maxRecDepth 20001
open Go.RowKit T
set_option linter.unusedSimpArgs false
set_option linter.unusedVariables false

namespace T
/-- what one field puts behind bytes -/
def Ms.wput (m : Ms) (l : List UInt8) (c : Nat) : List UInt8 := if c = 66 then B.put l m.br m.bn else if c = 83 then C.put l (T.nz m.sl) 4 else if c = 72 then if m.ha = true then cput (B.put (C.put l (T.bit m.ha) 1) m.vr m.vn) m.c else C.put l (T.bit m.ha) 1 else if c = 67 then cput l m.c else if c = 84 then tput l m.t.s m.t.q m.t.rs m.t.ws else if c = 73 then idput l m.ii m.ij else if c = 71 then C.put l (T.nz m.g) 1 else if c = 80 then C.put l m.st 8 else if c = 89 then C.put l (T.bit m.ye) 1 else if c = 78 then C.put l (T.nz m.nu) 4 else if c = 75 then C.putText l m.ky.data.toList else if c = 86 then C.put l m.ve 8 else if c = 88 then V.put l m.vk m.vb m.vt.data.toList else if c = 69 then C.put l (T.nz m.er) 1 else if c = 68 then C.put l m.dt.length 4 ++ m.dt else l
/-- what the first k fields put -/
def Ms.wl (m : Ms) (k : Nat) : List UInt8 := ((fieldsOf m.kd).take k).foldl (fun l c => m.wput l c.toNat) (C.put [] (T.nz m.kd) 1)
/-- a message's bytes -/
def Ms.wr (m : Ms) : List UInt8 := (fieldsOf m.kd).foldl (fun l c => m.wput l c.toNat) (C.put [] (T.nz m.kd) 1)
end T
theorem wl_zero (m : Ms) : m.wl 0 = C.put [] (T.nz m.kd) 1 := by unfold T.Ms.wl; rw [List.take_zero]; rfl
theorem wl_succ (m : Ms) (k : Nat) (h : k < (fieldsOf m.kd).length) : m.wl (k + 1) = m.wput (m.wl k) ((fieldsOf m.kd)[k]'h).toNat := by
 unfold T.Ms.wl
 rw [List.take_succ_eq_append_getElem h, List.foldl_append]; rfl
theorem wl_end (m : Ms) (k : Nat) (h : ¬ k < (fieldsOf m.kd).length) : m.wl k = m.wr := by
 unfold T.Ms.wl T.Ms.wr
 rw [List.take_of_length_le (by omega)]
theorem cput_len (l : List UInt8) (x : Cm) : (cput l x).length ≤ l.length + 1600100 := by
 unfold cput
 cases x.formed with
 | false => simp only [cond_false]; omega
 | true =>
  simp only [cond_true]
  have h1 := tput_len (C.put l 1 1) x.s x.q x.rs x.ws
  have h2 := put_len2 l 1 1
  have h3 := put_len2 (C.put (idput (C.put l 2 1) x.i x.j) x.g.toNat 1) x.st 8
  have h4 := put_len2 (idput (C.put l 2 1) x.i x.j) x.g.toNat 1
  have h5 := idput_len (C.put l 2 1) x.i x.j
  have h6 := put_len2 l 2 1
  have h7 := put_len2 (C.put (idput (C.put l 3 1) x.i x.j) x.g.toNat 1) (if x.y = true then 1 else 0) 1
  have h8 := put_len2 (idput (C.put l 3 1) x.i x.j) x.g.toNat 1
  have h9 := idput_len (C.put l 3 1) x.i x.j
  have h10 := put_len2 l 3 1
  have h11 := put_len2 l 0 1
  split <;> (try split) <;> (try split) <;> omega
theorem wput_B (m : Ms) (l : List UInt8) : m.wput l 66 = (B.put l m.br m.bn) := rfl
theorem wput_S (m : Ms) (l : List UInt8) : m.wput l 83 = (C.put l (T.nz m.sl) 4) := rfl
theorem wput_H (m : Ms) (l : List UInt8) : m.wput l 72 = (if m.ha = true then cput (B.put (C.put l (T.bit m.ha) 1) m.vr m.vn) m.c else C.put l (T.bit m.ha) 1) := rfl
theorem wput_C (m : Ms) (l : List UInt8) : m.wput l 67 = (cput l m.c) := rfl
theorem wput_T (m : Ms) (l : List UInt8) : m.wput l 84 = (tput l m.t.s m.t.q m.t.rs m.t.ws) := rfl
theorem wput_I (m : Ms) (l : List UInt8) : m.wput l 73 = (idput l m.ii m.ij) := rfl
theorem wput_G (m : Ms) (l : List UInt8) : m.wput l 71 = (C.put l (T.nz m.g) 1) := rfl
theorem wput_P (m : Ms) (l : List UInt8) : m.wput l 80 = (C.put l m.st 8) := rfl
theorem wput_Y (m : Ms) (l : List UInt8) : m.wput l 89 = (C.put l (T.bit m.ye) 1) := rfl
theorem wput_N (m : Ms) (l : List UInt8) : m.wput l 78 = (C.put l (T.nz m.nu) 4) := rfl
theorem wput_K (m : Ms) (l : List UInt8) : m.wput l 75 = (C.putText l m.ky.data.toList) := rfl
theorem wput_V (m : Ms) (l : List UInt8) : m.wput l 86 = (C.put l m.ve 8) := rfl
theorem wput_X (m : Ms) (l : List UInt8) : m.wput l 88 = (V.put l m.vk m.vb m.vt.data.toList) := rfl
theorem wput_E (m : Ms) (l : List UInt8) : m.wput l 69 = (C.put l (T.nz m.er) 1) := rfl
theorem wput_D (m : Ms) (l : List UInt8) : m.wput l 68 = (C.put l m.dt.length 4 ++ m.dt) := rfl
theorem wput_none (m : Ms) (l : List UInt8) (c : Nat) (hB : c ≠ 66) (hS : c ≠ 83) (hH : c ≠ 72) (hC : c ≠ 67) (hT : c ≠ 84) (hI : c ≠ 73) (hG : c ≠ 71) (hP : c ≠ 80) (hY : c ≠ 89) (hN : c ≠ 78) (hK : c ≠ 75) (hV : c ≠ 86) (hX : c ≠ 88) (hE : c ≠ 69) (hD : c ≠ 68) : m.wput l c = l := by
 unfold T.Ms.wput
 rw [if_neg hB, if_neg hS, if_neg hH, if_neg hC, if_neg hT, if_neg hI, if_neg hG, if_neg hP, if_neg hY, if_neg hN, if_neg hK, if_neg hV, if_neg hX, if_neg hE, if_neg hD]
theorem wput_len0 (m : Ms) (h : m.dt.length ≤ 70000) (l : List UInt8) (c : Nat) : (m.wput l c).length ≤ l.length + 1700000 := by
 by_cases hB : c = 66
 ·subst hB; rw [wput_B]; have h_ := B.put_len l m.br m.bn; omega
 by_cases hS : c = 83
 ·subst hS; rw [wput_S]; have h_ := put_len2 l (T.nz m.sl) 4; omega
 by_cases hH : c = 72
 ·subst hH; rw [wput_H]; have h_ := put_len2 l (T.bit m.ha) 1; have h2_ := B.put_len (C.put l (T.bit m.ha) 1) m.vr m.vn; have h3_ := cput_len (B.put (C.put l (T.bit m.ha) 1) m.vr m.vn) m.c; split <;> omega
 by_cases hC : c = 67
 ·subst hC; rw [wput_C]; have h_ := cput_len l m.c; omega
 by_cases hT : c = 84
 ·subst hT; rw [wput_T]; have h_ := tput_len l m.t.s m.t.q m.t.rs m.t.ws; omega
 by_cases hI : c = 73
 ·subst hI; rw [wput_I]; have h_ := idput_len l m.ii m.ij; omega
 by_cases hG : c = 71
 ·subst hG; rw [wput_G]; have h_ := put_len2 l (T.nz m.g) 1; omega
 by_cases hP : c = 80
 ·subst hP; rw [wput_P]; have h_ := put_len2 l m.st 8; omega
 by_cases hY : c = 89
 ·subst hY; rw [wput_Y]; have h_ := put_len2 l (T.bit m.ye) 1; omega
 by_cases hN : c = 78
 ·subst hN; rw [wput_N]; have h_ := put_len2 l (T.nz m.nu) 4; omega
 by_cases hK : c = 75
 ·subst hK; rw [wput_K]; have h_ := puttext_len l m.ky.data.toList; omega
 by_cases hV : c = 86
 ·subst hV; rw [wput_V]; have h_ := put_len2 l m.ve 8; omega
 by_cases hX : c = 88
 ·subst hX; rw [wput_X]; have h_ := V.put_len l m.vk m.vb m.vt.data.toList; omega
 by_cases hE : c = 69
 ·subst hE; rw [wput_E]; have h_ := put_len2 l (T.nz m.er) 1; omega
 by_cases hD : c = 68
 ·subst hD; rw [wput_D]; have h_ := put_len2 l m.dt.length 4; rw [List.length_append]; omega
 rw [wput_none m l c hB hS hH hC hT hI hG hP hY hN hK hV hX hE hD]; omega
theorem wput_len (m : Ms) (h : m.dt.length ≤ 100000000) (l : List UInt8) (c : Nat) : (m.wput l c).length ≤ l.length + 200000000 := by
 by_cases hB : c = 66
 ·subst hB; rw [wput_B]; have h_ := B.put_len l m.br m.bn; omega
 by_cases hS : c = 83
 ·subst hS; rw [wput_S]; have h_ := put_len2 l (T.nz m.sl) 4; omega
 by_cases hH : c = 72
 ·subst hH; rw [wput_H]; have h_ := put_len2 l (T.bit m.ha) 1; have h2_ := B.put_len (C.put l (T.bit m.ha) 1) m.vr m.vn; have h3_ := cput_len (B.put (C.put l (T.bit m.ha) 1) m.vr m.vn) m.c; split <;> omega
 by_cases hC : c = 67
 ·subst hC; rw [wput_C]; have h_ := cput_len l m.c; omega
 by_cases hT : c = 84
 ·subst hT; rw [wput_T]; have h_ := tput_len l m.t.s m.t.q m.t.rs m.t.ws; omega
 by_cases hI : c = 73
 ·subst hI; rw [wput_I]; have h_ := idput_len l m.ii m.ij; omega
 by_cases hG : c = 71
 ·subst hG; rw [wput_G]; have h_ := put_len2 l (T.nz m.g) 1; omega
 by_cases hP : c = 80
 ·subst hP; rw [wput_P]; have h_ := put_len2 l m.st 8; omega
 by_cases hY : c = 89
 ·subst hY; rw [wput_Y]; have h_ := put_len2 l (T.bit m.ye) 1; omega
 by_cases hN : c = 78
 ·subst hN; rw [wput_N]; have h_ := put_len2 l (T.nz m.nu) 4; omega
 by_cases hK : c = 75
 ·subst hK; rw [wput_K]; have h_ := puttext_len l m.ky.data.toList; omega
 by_cases hV : c = 86
 ·subst hV; rw [wput_V]; have h_ := put_len2 l m.ve 8; omega
 by_cases hX : c = 88
 ·subst hX; rw [wput_X]; have h_ := V.put_len l m.vk m.vb m.vt.data.toList; omega
 by_cases hE : c = 69
 ·subst hE; rw [wput_E]; have h_ := put_len2 l (T.nz m.er) 1; omega
 by_cases hD : c = 68
 ·subst hD; rw [wput_D]; have h_ := put_len2 l m.dt.length 4; rw [List.length_append]; omega
 rw [wput_none m l c hB hS hH hC hT hI hG hP hY hN hK hV hX hE hD]; omega
theorem fields_len (k : Int) : (fieldsOf k).length ≤ 7 := by
 by_cases k1 : k = 1
 ·subst k1; decide
 by_cases k2 : k = 2
 ·subst k2; decide
 by_cases k3 : k = 3
 ·subst k3; decide
 by_cases k4 : k = 4
 ·subst k4; decide
 by_cases k5 : k = 5
 ·subst k5; decide
 by_cases k6 : k = 6
 ·subst k6; decide
 by_cases k7 : k = 7
 ·subst k7; decide
 by_cases k8 : k = 8
 ·subst k8; decide
 by_cases k9 : k = 9
 ·subst k9; decide
 by_cases k10 : k = 10
 ·subst k10; decide
 by_cases k11 : k = 11
 ·subst k11; decide
 by_cases k12 : k = 12
 ·subst k12; decide
 by_cases k13 : k = 13
 ·subst k13; decide
 by_cases k14 : k = 14
 ·subst k14; decide
 by_cases k15 : k = 15
 ·subst k15; decide
 rw [show fieldsOf k = [] from by unfold fieldsOf; simp only [k1, k2, k3, k4, k5, k6, k7, k8, k9, k10, k11, k12, k13, k14, k15, if_false, or_self]]
 decide
theorem wl_len0 (m : Ms) (h : m.dt.length ≤ 70000) (k : Nat) : (m.wl k).length ≤ 16 + k * 1700000 := by
 induction k with
 | zero => rw [wl_zero]; have := put_len2 [] (T.nz m.kd) 1; simp only [List.length_nil] at this; omega
 | succ k ih =>
  by_cases hk : k < (fieldsOf m.kd).length
  ·rw [wl_succ m k hk]
   have := wput_len0 m h (m.wl k) ((fieldsOf m.kd)[k]'hk).toNat
   omega
  ·rw [wl_end m (k + 1) (by omega), ← wl_end m k hk]
   exact Nat.le_trans ih (Nat.add_le_add_left (Nat.mul_le_mul_right _ (Nat.le_succ k)) 16)
theorem wl_len (m : Ms) (h : m.dt.length ≤ 100000000) (k : Nat) : (m.wl k).length ≤ 16 + k * 200000000 := by
 induction k with
 | zero => rw [wl_zero]; have := put_len2 [] (T.nz m.kd) 1; simp only [List.length_nil] at this; omega
 | succ k ih =>
  by_cases hk : k < (fieldsOf m.kd).length
  ·rw [wl_succ m k hk]
   have := wput_len m h (m.wl k) ((fieldsOf m.kd)[k]'hk).toNat
   omega
  ·rw [wl_end m (k + 1) (by omega), ← wl_end m k hk]
   exact Nat.le_trans ih (Nat.add_le_add_left (Nat.mul_le_mul_right _ (Nat.le_succ k)) 16)
theorem tput_t {w : World} {B : Nat} {v : Value} {l : List UInt8} (h : SlB w B v l) (hl : l.length ≤ 4294967296) (hB : B ≤ w.heap.size) (x : Tn) (ok : TxOk w w.heap.size x.rs x.ws x.A1 x.c1 x.A2 x.c2) (hT : Tabs w) : Calls Tryd.prog 65 #[v, .agg x.cells.toArray] w (GotB w (tput l x.s x.q x.rs x.ws)) :=
 tput_s h hl hB x.s x.q x.rs x.ws x.A1 x.c1 x.A2 x.c2 ok hT
/-- a slice of these bytes is returned, owned -/
def GotO (w : World) (l : List UInt8) (e : Ending) (w' : World) : Prop := ∃ v, e = .returned v ∧ OwnB w' w.heap.size v l ∧ Below w.heap.size w w'
theorem put_o {w : World} {B : Nat} {v : Value} {l : List UInt8} (h : SlB w B v l) (hl : l.length ≤ 549755813888) (hB : B ≤ w.heap.size) (x : Nat) (hx : x < 18446744073709551616) (n : Int) : Calls Tryd.prog 61 #[v, .int .u64 (x : Int), .int .i64 n] w (GotO w (C.put l x n)) := by
 obtain ⟨A, c, rfl, hc, hm, hA, hr⟩ := h
 exact put_any A c l x n w B hl hA hr hB hx
theorem msData {w : World} {B : Nat} {m : Ms} (ok : MsOk w B m) : SlB w B (.slice m.D m.dt.length m.dc) m.dt := ⟨m.D, m.dc, rfl, ok.dl, ok.dm, ok.dn, ok.d⟩
theorem bit_lt (x : Bool) : T.bit x < 18446744073709551616 := by cases x <;> decide
/-- bytes and no error are returned where f says yes, an error where not -/
def Wrote (f : Bool) (l : List UInt8) (e : Ending) (w' : World) : Prop :=
 ∃ v m x, e = .returned (.tuple #[v, .int .i64 x]) ∧ SlB w' w'.heap.size v m ∧ x = (bif f then 0 else 2) ∧ m = (bif f then l else [])
set_option maxHeartbeats 25600000 in
theorem mwrite_any (m : Ms) (w : World) (B0 : Nat) (hB : B0 ≤ w.heap.size) (ok : MsOk w B0 m) (hdt : m.dt.length ≤ 100000000) (hT : Tabs w) :
  Calls Tryd.prog 20 #[.agg m.cells.toArray] w fun e w' => Wrote m.formed m.wr e w' ∧ Below w.heap.size w w' := by
 have ee : Below w.heap.size w w := Below.refl _ _
 go_enter Tryd.func20, Tryd.ntmps20
 refine wp_seq_k fun K1 hK1 => ?_
 refine wp_region_lit ?_
 with_reducible refine ww (.pointer (some ⟨w.heap.size, 0, none⟩)) (w.alloc (.cells (m.cells).toArray 39)) ?_
 try simp only [nP, nN, nA, n0, nS]
 have sz_g2 := ee.size
 have sz_ := ee.size
 have ee := ee.alloc ee.size (.cells (m.cells).toArray 39)
 have Zb1 := hpN w (.cells (m.cells).toArray 39) rfl
 generalize w.alloc (.cells (m.cells).toArray 39) = z1 at Zb1 ee ⊢
 obtain ⟨g2, hg_g2⟩ : ∃ g_, g_ = w.heap.size := ⟨_, rfl⟩
 have hB_g2 : w.heap.size ≤ g2 := by rw [hg_g2]; exact sz_g2
 rw [← hg_g2] at Zb1 ⊢
 clear hg_g2
 with_reducible refine wv (.slice none 0 0) ?_
 try simp only [nP, nN, nA, n0, nS]
 with_reducible refine wv (.int .i64 0) ?_
 try simp only [nP, nN, nA, n0, nS]
 refine wpList_nil ?_
 refine hK1 _ _ ?_
 refine wp_seq_k fun K3 hK3 => ?_
 refine wp_seq_k fun K4 hK4 => ?_
 refine wp_region_lit ?_
 with_reducible refine wg (g2) (0) (m.cells) (rowAt Zb1) Tryd.underlying39 ?_
 try simp only [nP, nN, nA, n0, nS]
 with_reducible refine wc 13 #[.agg (m.cells).toArray] (mformed_any m z1 B0 (Nat.le_trans hB ee.size) (ok.below ee hB) (hT.below ee)) ?_
 rintro e z2 ⟨rfl, t⟩
 refine ⟨_, rfl, ?_⟩
 have Zb1 := hpB Zb1 t
 have ee := ee.trans (t.mono ee.size)
 clear t
 generalize hb5 : m.formed = b5
 try simp only [nP, nN, nA, n0, nS]
 cases b5
 ·with_reducible refine wv (.bool true) ?_
  try simp only [nP, nN, nA, n0, nS]
  refine wpList_nil ?_
  refine hK4 _ _ ?_
  refine wp_cond_true (by kernel_rfl) ?_
  refine wp_seq_k fun K6 hK6 => ?_
  refine wp_region_lit ?_
  with_reducible refine wv (.slice none 0 0) ?_
  try simp only [nP, nN, nA, n0, nS]
  with_reducible refine wv (.int .i64 2) ?_
  try simp only [nP, nN, nA, n0, nS]
  refine wpList_nil ?_
  refine hK6 _ _ ?_
  refine wp_ret ?_
  refine then_ret ?_
  exact bodyPost_ret (v := .tuple #[.slice none 0 0, .int .i64 2]) (by kernel_rfl) rfl ⟨⟨_, [], 2, rfl, SlB.nil, by rw [hb5]; rfl, by rw [hb5]; rfl⟩, ee⟩
 with_reducible refine wv (.bool false) ?_
 try simp only [nP, nN, nA, n0, nS]
 refine wpList_nil ?_
 refine hK4 _ _ ?_
 refine wp_cond_false (by kernel_rfl) ?_
 refine wp_skip ?_
 refine hK3 _ _ ?_
 refine wp_seq_k fun K7 hK7 => ?_
 refine wp_region_lit ?_
 with_reducible refine wv (.pointer (some ⟨g2, 0, none⟩)) ?_
 try simp only [nP, nN, nA, n0, nS]
 with_reducible refine wl (.int .i64 m.kd) ⟨g2, 0, none⟩ (rowCell Zb1 (0) rfl) Tryd.underlying3 ?_
 try simp only [nP, nN, nA, n0, nS]
 with_reducible refine wq (.int .u64 ((T.nz m.kd : Int))) (okIntP ((wrapU m.kd) : IntKind.u64.wrap m.kd = (T.nz m.kd : Int)) (by kernel_rfl)) ?_
 try simp only [nP, nN, nA, n0, nS]
 with_reducible refine wc 61 #[.slice none 0 0, .int .u64 ((T.nz m.kd : Int)), .int .i64 1] (put_s (SlB.nil : SlB z2 z2.heap.size _ _) (by simp) (Nat.le_refl _) (T.nz m.kd) (nz_lt _) 1) ?_
 rintro e z3 ⟨v0, rfl, hs, t, hf_hs⟩
 refine ⟨_, rfl, ?_⟩
 have hf_hs := hf_hs.mono ee.size
 have Zb1 := hpB Zb1 t
 have ee := ee.trans (t.mono ee.size)
 clear t
 try simp only [nP, nN, nA, n0, nS]
 with_reducible refine wv (v0) ?_
 try simp only [nP, nN, nA, n0, nS]
 refine wpList_nil ?_
 refine hK7 _ _ ?_
 refine wp_seq_k fun K8 hK8 => ?_
 refine wp_seq_k fun K9 hK9 => ?_
 refine wp_region_lit ?_
 with_reducible refine wv (.pointer (some ⟨g2, 0, none⟩)) ?_
 try simp only [nP, nN, nA, n0, nS]
 with_reducible refine wl (.int .i64 m.kd) ⟨g2, 0, none⟩ (rowCell Zb1 (0) rfl) Tryd.underlying3 ?_
 try simp only [nP, nN, nA, n0, nS]
 with_reducible refine wc 40 #[.int .i64 m.kd] (fields_any m.kd z3) ?_
 rintro e z4 ⟨rfl, hw_⟩
 refine ⟨_, rfl, ?_⟩
 rw [← hw_]
 clear hw_ z4
 try simp only [nP, nN, nA, n0, nS]
 with_reducible refine ww (.pointer (some ⟨z3.heap.size, 0, none⟩)) (z3.alloc (.stringIter (⟨(fieldsOf m.kd).toArray⟩) 0)) ?_
 try simp only [nP, nN, nA, n0, nS]
 have sz_g10 := ee.size
 have lZb1 := (Array.getElem?_eq_some_iff.1 Zb1).1
 have hs := (hs.belowM ((Below.refl _ z3).alloc (Nat.le_refl _) (.stringIter (⟨(fieldsOf m.kd).toArray⟩) 0)) (Nat.le_refl _)).more (((Below.refl _ z3).alloc (Nat.le_refl _) (.stringIter (⟨(fieldsOf m.kd).toArray⟩) 0)).size)
 have Zb1 := hpA Zb1 (.stringIter (⟨(fieldsOf m.kd).toArray⟩) 0)
 have ee := ee.alloc ee.size (.stringIter (⟨(fieldsOf m.kd).toArray⟩) 0)
 have Zi17 := hpN z3 (.stringIter (⟨(fieldsOf m.kd).toArray⟩) 0) rfl
 obtain ⟨g10, hg_g10⟩ : ∃ g_, g_ = z3.heap.size := ⟨_, rfl⟩
 have n_g10_Zb1 : g2 < g10 := by rw [hg_g10]; exact lZb1
 have hB_g10 : w.heap.size ≤ g10 := by rw [hg_g10]; exact sz_g10
 rw [← hg_g10] at Zi17 ⊢
 clear hg_g10 lZb1
 generalize z3.alloc (.stringIter (⟨(fieldsOf m.kd).toArray⟩) 0) = z5 at Zb1 ee hs Zi17 ⊢
 refine wpList_nil ?_
 refine hK9 _ _ ?_
 refine wp_block ?_
 with_reducible refine wp_loop_su ((fieldsOf m.kd).length) (fun k u_ alzl10 zl10 => ∃ (v : Value), alzl10 = ⟨#[.agg (m.cells).toArray, .pointer (some ⟨g2, 0, none⟩), .slice none 0 0, .int .i64 0, v, undef, u_ 6, .agg (m.cells).toArray, .bool true, .bool false, .pointer (some ⟨g2, 0, none⟩), .int .i64 m.kd, .int .u64 ((T.nz m.kd : Int)), v0, .pointer (some ⟨g2, 0, none⟩), .int .i64 m.kd, .string (⟨(fieldsOf m.kd).toArray⟩), .pointer (some ⟨g10, 0, none⟩), u_ 18, u_ 19, u_ 20, u_ 21, u_ 22, u_ 23, u_ 24, u_ 25, u_ 26, u_ 27, u_ 28, u_ 29, u_ 30, u_ 31, u_ 32, u_ 33, u_ 34, u_ 35, u_ 36, u_ 37, u_ 38, u_ 39, u_ 40, u_ 41, u_ 42, u_ 43, u_ 44, u_ 45, u_ 46, u_ 47, u_ 48, u_ 49, u_ 50, u_ 51, u_ 52, u_ 53, u_ 54, u_ 55, u_ 56, u_ 57, u_ 58, u_ 59, u_ 60, u_ 61, u_ 62, u_ 63, u_ 64, u_ 65, u_ 66, u_ 67, u_ 68, u_ 69, u_ 70, u_ 71, u_ 72, u_ 73, u_ 74, u_ 75, u_ 76, u_ 77, u_ 78, u_ 79, u_ 80, u_ 81, u_ 82, u_ 83, u_ 84, u_ 85, u_ 86, u_ 87, u_ 88, u_ 89, u_ 90, u_ 91, u_ 92, u_ 93, u_ 94, u_ 95, u_ 96, u_ 97, u_ 98, u_ 99, u_ 100, u_ 101, u_ 102, u_ 103, u_ 104, u_ 105, u_ 106, u_ 107, u_ 108, u_ 109, u_ 110, u_ 111, u_ 112, u_ 113, u_ 114, u_ 115, u_ 116, u_ 117, u_ 118, u_ 119, u_ 120, u_ 121, u_ 122, u_ 123, u_ 124, u_ 125, u_ 126, u_ 127, u_ 128, u_ 129, u_ 130, u_ 131, undef], []⟩ ∧ Hid (zl10.heap[g2]? = some (.cells (m.cells).toArray 39 (0, 0))) ∧ Hid (zl10.heap[g10]? = some (Obj.stringIter (⟨(fieldsOf m.kd).toArray⟩) k)) ∧ Hid (Below w.heap.size w zl10) ∧ Hid (SlB zl10 zl10.heap.size v (m.wl k))) 0 (Nat.zero_le _) ?_ ?_
 ·exact ⟨v0, by kernel_rfl, Zb1, Zi17, ee, (by rw [wl_zero]; exact hs)⟩
 clear Zb1 Zi17 ee hs
 intro k u_ alzl10 zl10 hkzl10 hszl10
 obtain ⟨v, rfl, Zb1, Zi17, ee, hs⟩ := hszl10
 have Zb1 := Zb1.out
 have Zi17 := Zi17.out
 have ee := ee.out
 have hs := hs.out
 refine wp_seq_k fun K12 hK12 => ?_
 refine wp_region_lit ?_
 by_cases hkl : k < (fieldsOf m.kd).length
 ·have hsz : k < (⟨(fieldsOf m.kd).toArray⟩ : ByteArray).size := by show k < (fieldsOf m.kd).toArray.size; rw [List.size_toArray]; exact hkl
  have hgt : ((⟨(fieldsOf m.kd).toArray⟩ : ByteArray)[k]'hsz) = (fieldsOf m.kd)[k]'hkl := rfl
  obtain ⟨c, hc⟩ : ∃ c : Nat, ((fieldsOf m.kd)[k]'hkl).toNat = c := ⟨_, rfl⟩
  have hw1 := wl_succ m k hkl
  rw [hc] at hw1
  have hl0 := wl_len m hdt k
  have hk7 := fields_len m.kd
  have hnx := fun ty => Lib.run_next_ascii_at (P := Tryd.prog) zl10 g10 ⟨(fieldsOf m.kd).toArray⟩ k ty Zi17 hsz (by rw [hgt]; exact fieldsOf_ascii _ _ (List.getElem_mem hkl))
  rw [hgt, hc] at hnx
  with_reducible refine wn (.tuple #[.bool true, .int .i64 ((k : Int)), .int .i32 ((c : Int))]) (zl10.iterAt g10 ⟨(fieldsOf m.kd).toArray⟩ (k + 1)) hnx ?_
  try simp only [nP, nN, nA, n0, nS]
  have Zb1 := (Lib.iterAt_other zl10 g10 _ (⟨(fieldsOf m.kd).toArray⟩) (k + 1) (by omega)).trans Zb1
  have hs := slIter Zi17 (k + 1) hs
  have ee := Lib.below_iterAt ee (k := g10) (by omega) (⟨(fieldsOf m.kd).toArray⟩) (k + 1)
  have Zi17 := Lib.iterAt_heap zl10 g10 (⟨(fieldsOf m.kd).toArray⟩) _ (k + 1) Zi17
  generalize zl10.iterAt g10 (⟨(fieldsOf m.kd).toArray⟩) (k + 1) = z6 at Zb1 ee hs Zi17 ⊢
  clear hnx
  with_reducible refine wv (.bool true) ?_
  try simp only [nP, nN, nA, n0, nS]
  refine wpList_nil ?_
  refine hK12 _ _ ?_
  refine wp_seq_k fun K13 hK13 => ?_
  refine wp_cond_true (by kernel_rfl) ?_
  refine wp_skip ?_
  refine hK13 _ _ ?_
  refine wp_block ?_
  refine wp_seq_k fun K14 hK14 => ?_
  refine wp_region_lit ?_
  with_reducible refine wv (.int .i32 ((c : Int))) ?_
  try simp only [nP, nN, nA, n0, nS]
  with_reducible refine wv (.int .i32 ((c : Int))) ?_
  try simp only [nP, nN, nA, n0, nS]
  refine wpList_nil ?_
  refine hK14 _ _ ?_
  refine wp_seq_k fun K15 hK15 => ?_
  refine wp_region_lit ?_
  with_reducible refine wv (.int .i32 ((c : Int))) ?_
  try simp only [nP, nN, nA, n0, nS]
  refine wpList_nil ?_
  refine hK15 _ _ ?_
  refine wp_block ?_
  refine wp_seq_k fun K16 hK16 => ?_
  refine wp_region_lit ?_
  obtain ⟨b17, hb17⟩ : ∃ d_ : Bool, (decide ((c : Int) = 66)) = d_ := ⟨_, rfl⟩
  with_reducible refine wb (.bool b17) (.int .i32 ((c : Int))) (.int .i32 66) 21 (run_eqlI hb17) ?_
  try simp only [nP, nN, nA, n0, nS]
  with_reducible refine wv (.bool b17) ?_
  try simp only [nP, nN, nA, n0, nS]
  refine wpList_nil ?_
  refine hK16 _ _ ?_
  cases b17
  ·have pb17 : ¬ ((c : Int) = 66) := of_decide_eq_false hb17
   refine wp_cond_false (by kernel_rfl) ?_
   refine wp_seq_k fun K18 hK18 => ?_
   refine wp_region_lit ?_
   obtain ⟨b19, hb19⟩ : ∃ d_ : Bool, (decide ((c : Int) = 83)) = d_ := ⟨_, rfl⟩
   with_reducible refine wb (.bool b19) (.int .i32 ((c : Int))) (.int .i32 83) 21 (run_eqlI hb19) ?_
   try simp only [nP, nN, nA, n0, nS]
   with_reducible refine wv (.bool b19) ?_
   try simp only [nP, nN, nA, n0, nS]
   refine wpList_nil ?_
   refine hK18 _ _ ?_
   cases b19
   ·have pb19 : ¬ ((c : Int) = 83) := of_decide_eq_false hb19
    refine wp_cond_false (by kernel_rfl) ?_
    refine wp_seq_k fun K20 hK20 => ?_
    refine wp_region_lit ?_
    obtain ⟨b21, hb21⟩ : ∃ d_ : Bool, (decide ((c : Int) = 72)) = d_ := ⟨_, rfl⟩
    with_reducible refine wb (.bool b21) (.int .i32 ((c : Int))) (.int .i32 72) 21 (run_eqlI hb21) ?_
    try simp only [nP, nN, nA, n0, nS]
    with_reducible refine wv (.bool b21) ?_
    try simp only [nP, nN, nA, n0, nS]
    refine wpList_nil ?_
    refine hK20 _ _ ?_
    cases b21
    ·have pb21 : ¬ ((c : Int) = 72) := of_decide_eq_false hb21
     refine wp_cond_false (by kernel_rfl) ?_
     refine wp_seq_k fun K22 hK22 => ?_
     refine wp_region_lit ?_
     obtain ⟨b23, hb23⟩ : ∃ d_ : Bool, (decide ((c : Int) = 67)) = d_ := ⟨_, rfl⟩
     with_reducible refine wb (.bool b23) (.int .i32 ((c : Int))) (.int .i32 67) 21 (run_eqlI hb23) ?_
     try simp only [nP, nN, nA, n0, nS]
     with_reducible refine wv (.bool b23) ?_
     try simp only [nP, nN, nA, n0, nS]
     refine wpList_nil ?_
     refine hK22 _ _ ?_
     cases b23
     ·have pb23 : ¬ ((c : Int) = 67) := of_decide_eq_false hb23
      refine wp_cond_false (by kernel_rfl) ?_
      refine wp_seq_k fun K24 hK24 => ?_
      refine wp_region_lit ?_
      obtain ⟨b25, hb25⟩ : ∃ d_ : Bool, (decide ((c : Int) = 84)) = d_ := ⟨_, rfl⟩
      with_reducible refine wb (.bool b25) (.int .i32 ((c : Int))) (.int .i32 84) 21 (run_eqlI hb25) ?_
      try simp only [nP, nN, nA, n0, nS]
      with_reducible refine wv (.bool b25) ?_
      try simp only [nP, nN, nA, n0, nS]
      refine wpList_nil ?_
      refine hK24 _ _ ?_
      cases b25
      ·have pb25 : ¬ ((c : Int) = 84) := of_decide_eq_false hb25
       refine wp_cond_false (by kernel_rfl) ?_
       refine wp_seq_k fun K26 hK26 => ?_
       refine wp_region_lit ?_
       obtain ⟨b27, hb27⟩ : ∃ d_ : Bool, (decide ((c : Int) = 73)) = d_ := ⟨_, rfl⟩
       with_reducible refine wb (.bool b27) (.int .i32 ((c : Int))) (.int .i32 73) 21 (run_eqlI hb27) ?_
       try simp only [nP, nN, nA, n0, nS]
       with_reducible refine wv (.bool b27) ?_
       try simp only [nP, nN, nA, n0, nS]
       refine wpList_nil ?_
       refine hK26 _ _ ?_
       cases b27
       ·have pb27 : ¬ ((c : Int) = 73) := of_decide_eq_false hb27
        refine wp_cond_false (by kernel_rfl) ?_
        refine wp_seq_k fun K28 hK28 => ?_
        refine wp_region_lit ?_
        obtain ⟨b29, hb29⟩ : ∃ d_ : Bool, (decide ((c : Int) = 71)) = d_ := ⟨_, rfl⟩
        with_reducible refine wb (.bool b29) (.int .i32 ((c : Int))) (.int .i32 71) 21 (run_eqlI hb29) ?_
        try simp only [nP, nN, nA, n0, nS]
        with_reducible refine wv (.bool b29) ?_
        try simp only [nP, nN, nA, n0, nS]
        refine wpList_nil ?_
        refine hK28 _ _ ?_
        cases b29
        ·have pb29 : ¬ ((c : Int) = 71) := of_decide_eq_false hb29
         refine wp_cond_false (by kernel_rfl) ?_
         refine wp_seq_k fun K30 hK30 => ?_
         refine wp_region_lit ?_
         obtain ⟨b31, hb31⟩ : ∃ d_ : Bool, (decide ((c : Int) = 80)) = d_ := ⟨_, rfl⟩
         with_reducible refine wb (.bool b31) (.int .i32 ((c : Int))) (.int .i32 80) 21 (run_eqlI hb31) ?_
         try simp only [nP, nN, nA, n0, nS]
         with_reducible refine wv (.bool b31) ?_
         try simp only [nP, nN, nA, n0, nS]
         refine wpList_nil ?_
         refine hK30 _ _ ?_
         cases b31
         ·have pb31 : ¬ ((c : Int) = 80) := of_decide_eq_false hb31
          refine wp_cond_false (by kernel_rfl) ?_
          refine wp_seq_k fun K32 hK32 => ?_
          refine wp_region_lit ?_
          obtain ⟨b33, hb33⟩ : ∃ d_ : Bool, (decide ((c : Int) = 89)) = d_ := ⟨_, rfl⟩
          with_reducible refine wb (.bool b33) (.int .i32 ((c : Int))) (.int .i32 89) 21 (run_eqlI hb33) ?_
          try simp only [nP, nN, nA, n0, nS]
          with_reducible refine wv (.bool b33) ?_
          try simp only [nP, nN, nA, n0, nS]
          refine wpList_nil ?_
          refine hK32 _ _ ?_
          cases b33
          ·have pb33 : ¬ ((c : Int) = 89) := of_decide_eq_false hb33
           refine wp_cond_false (by kernel_rfl) ?_
           refine wp_seq_k fun K34 hK34 => ?_
           refine wp_region_lit ?_
           obtain ⟨b35, hb35⟩ : ∃ d_ : Bool, (decide ((c : Int) = 78)) = d_ := ⟨_, rfl⟩
           with_reducible refine wb (.bool b35) (.int .i32 ((c : Int))) (.int .i32 78) 21 (run_eqlI hb35) ?_
           try simp only [nP, nN, nA, n0, nS]
           with_reducible refine wv (.bool b35) ?_
           try simp only [nP, nN, nA, n0, nS]
           refine wpList_nil ?_
           refine hK34 _ _ ?_
           cases b35
           ·have pb35 : ¬ ((c : Int) = 78) := of_decide_eq_false hb35
            refine wp_cond_false (by kernel_rfl) ?_
            refine wp_seq_k fun K36 hK36 => ?_
            refine wp_region_lit ?_
            obtain ⟨b37, hb37⟩ : ∃ d_ : Bool, (decide ((c : Int) = 75)) = d_ := ⟨_, rfl⟩
            with_reducible refine wb (.bool b37) (.int .i32 ((c : Int))) (.int .i32 75) 21 (run_eqlI hb37) ?_
            try simp only [nP, nN, nA, n0, nS]
            with_reducible refine wv (.bool b37) ?_
            try simp only [nP, nN, nA, n0, nS]
            refine wpList_nil ?_
            refine hK36 _ _ ?_
            cases b37
            ·have pb37 : ¬ ((c : Int) = 75) := of_decide_eq_false hb37
             refine wp_cond_false (by kernel_rfl) ?_
             refine wp_seq_k fun K38 hK38 => ?_
             refine wp_region_lit ?_
             obtain ⟨b39, hb39⟩ : ∃ d_ : Bool, (decide ((c : Int) = 86)) = d_ := ⟨_, rfl⟩
             with_reducible refine wb (.bool b39) (.int .i32 ((c : Int))) (.int .i32 86) 21 (run_eqlI hb39) ?_
             try simp only [nP, nN, nA, n0, nS]
             with_reducible refine wv (.bool b39) ?_
             try simp only [nP, nN, nA, n0, nS]
             refine wpList_nil ?_
             refine hK38 _ _ ?_
             cases b39
             ·have pb39 : ¬ ((c : Int) = 86) := of_decide_eq_false hb39
              refine wp_cond_false (by kernel_rfl) ?_
              refine wp_seq_k fun K40 hK40 => ?_
              refine wp_region_lit ?_
              obtain ⟨b41, hb41⟩ : ∃ d_ : Bool, (decide ((c : Int) = 88)) = d_ := ⟨_, rfl⟩
              with_reducible refine wb (.bool b41) (.int .i32 ((c : Int))) (.int .i32 88) 21 (run_eqlI hb41) ?_
              try simp only [nP, nN, nA, n0, nS]
              with_reducible refine wv (.bool b41) ?_
              try simp only [nP, nN, nA, n0, nS]
              refine wpList_nil ?_
              refine hK40 _ _ ?_
              cases b41
              ·have pb41 : ¬ ((c : Int) = 88) := of_decide_eq_false hb41
               refine wp_cond_false (by kernel_rfl) ?_
               refine wp_seq_k fun K42 hK42 => ?_
               refine wp_region_lit ?_
               obtain ⟨b43, hb43⟩ : ∃ d_ : Bool, (decide ((c : Int) = 69)) = d_ := ⟨_, rfl⟩
               with_reducible refine wb (.bool b43) (.int .i32 ((c : Int))) (.int .i32 69) 21 (run_eqlI hb43) ?_
               try simp only [nP, nN, nA, n0, nS]
               with_reducible refine wv (.bool b43) ?_
               try simp only [nP, nN, nA, n0, nS]
               refine wpList_nil ?_
               refine hK42 _ _ ?_
               cases b43
               ·have pb43 : ¬ ((c : Int) = 69) := of_decide_eq_false hb43
                refine wp_cond_false (by kernel_rfl) ?_
                refine wp_seq_k fun K44 hK44 => ?_
                refine wp_region_lit ?_
                obtain ⟨b45, hb45⟩ : ∃ d_ : Bool, (decide ((c : Int) = 68)) = d_ := ⟨_, rfl⟩
                with_reducible refine wb (.bool b45) (.int .i32 ((c : Int))) (.int .i32 68) 21 (run_eqlI hb45) ?_
                try simp only [nP, nN, nA, n0, nS]
                with_reducible refine wv (.bool b45) ?_
                try simp only [nP, nN, nA, n0, nS]
                refine wpList_nil ?_
                refine hK44 _ _ ?_
                cases b45
                ·have pb45 : ¬ ((c : Int) = 68) := of_decide_eq_false hb45
                 refine wp_cond_false (by kernel_rfl) ?_
                 refine wp_skip ?_
                 refine inBlock_normal ?_
                 refine inBlock_normal ?_
                 refine then_normal ?_
                 exact ⟨hkl, v, by kernel_rfl, Zb1, Zi17, ee, (by rw [hw1, wput_none m _ c (by omega) (by omega) (by omega) (by omega) (by omega) (by omega) (by omega) (by omega) (by omega) (by omega) (by omega) (by omega) (by omega) (by omega) (by omega)]; exact hs)⟩
                have pb45 : (c : Int) = 68 := of_decide_eq_true hb45
                have eb45 : (c : Int) = 68 := of_decide_eq_true hb45
                refine wp_cond_true (by kernel_rfl) ?_
                have hs : SlB z6.drew z6.drew.heap.size _ _ := SlB.drew hs
                have Zi17 : z6.drew.heap[g10]? = some (Obj.stringIter (⟨(fieldsOf m.kd).toArray⟩) (k + 1)) := Zi17
                have Zb1 : z6.drew.heap[g2]? = some (.cells (m.cells).toArray 39) := Zb1
                have ee := belowDrewS ee
                -- region 39
                with_reducible refine any_begin (fun z' => z'.heap[g2]? = some (.cells (m.cells).toArray 39 (0, 0))) 10 #[false, false, false, false, false, false, false, false, false, false] Zb1 ?_ ?_
                ·intro c_ a_ d_ v_ w_ h_; cases d_ <;> exact h_
                generalize z6.drew = z7 at Zb1 ee hs Zi17 ⊢
                with_reducible refine ha 0 (some 123) (v) #[true, false, false, false, false, false, false, false, false, false] (fun _ _ => by kernel_rfl) Zb1 ?_
                try simp only [nP, nN, nA, n0, nS]
                with_reducible refine ha 1 (some 124) (.pointer (some ⟨g2, 33, none⟩)) #[true, true, false, false, false, false, false, false, false, false] (fun _ _ => by kernel_rfl) Zb1 ?_
                try simp only [nP, nN, nA, n0, nS]
                with_reducible refine hl_ 2 (some 125) (.slice m.D m.dt.length m.dc) ⟨g2, 33, none⟩ #[true, true, true, false, false, false, false, false, false, false] (fun _ h_ => (rowCell h_ (33) rfl)) Tryd.underlying37 Zb1 ?_
                try simp only [nP, nN, nA, n0, nS]
                with_reducible refine ha 3 (some 126) (.int .i64 ((m.dt.length : Int))) #[true, true, true, true, false, false, false, false, false, false] (fun _ _ => by kernel_rfl) Zb1 ?_
                try simp only [nP, nN, nA, n0, nS]
                with_reducible refine ha 4 (some 127) (.int .u64 ((m.dt.length : Int))) #[true, true, true, true, true, false, false, false, false, false] (fun _ _ => (okIntA ((wrapOf (by omega)) : IntKind.u64.wrap ((m.dt.length : Int)) = (m.dt.length : Int)) (by kernel_rfl))) Zb1 ?_
                try simp only [nP, nN, nA, n0, nS]
                with_reducible refine ha 6 (some 129) (.pointer (some ⟨g2, 33, none⟩)) #[true, true, true, true, true, false, true, false, false, false] (fun _ _ => by kernel_rfl) Zb1 ?_
                try simp only [nP, nN, nA, n0, nS]
                with_reducible refine hl_ 7 (some 130) (.slice m.D m.dt.length m.dc) ⟨g2, 33, none⟩ #[true, true, true, true, true, false, true, true, false, false] (fun _ h_ => (rowCell h_ (33) rfl)) Tryd.underlying37 Zb1 ?_
                try simp only [nP, nN, nA, n0, nS]
                with_reducible refine any1 5 ?_
                have sz_w := ee.size
                have lt_Zb1 := (Array.getElem?_eq_some_iff.1 Zb1).1
                have lt_Zi17 := (Array.getElem?_eq_some_iff.1 Zi17).1
                with_reducible refine st_f 5 (some 128) 61 #[v, .int .u64 ((m.dt.length : Int)), .int .i64 4] #[true, true, true, true, true, true, true, true, false, false] (put_o hs (by have h_ := wl_len m hdt k; omega) (Nat.le_refl _) m.dt.length (by omega) 4) ?_
                rintro e z8 ⟨r3, rfl, O3, t⟩
                refine ⟨_, rfl, ?_⟩
                have tO3 := t
                have hs := (hs.belowM t (Nat.le_refl _)).more t.size
                have Zi17 := hpB Zi17 t
                have Zb1 := hpB Zb1 t
                have ee := ee.trans (t.mono ee.size)
                clear t
                refine ⟨Zb1, ?_⟩
                try simp only [nP, nN, nA, n0, nS]
                with_reducible refine any1 8 ?_
                refine st_a8 8 (some 131) (.tmp 128) (.tmp 130) #[true, true, true, true, true, true, true, true, true, false] O3 (msData (ok.below ee hB)) (by have h_ := wl_len m hdt k; have h2_ := put_len2 (m.wl k) m.dt.length 4; omega) (by omega) tO3.size ?_
                intro v_ z10 O_ g_
                have hs := SlB.ofOwn O_
                have Zb1 := heapGrown O3 g_ lt_Zb1 Zb1
                have Zi17 := heapGrown O3 g_ lt_Zi17 Zi17
                have ee := ee.grown g_ ee.size (fun i_ h_ => Nat.le_trans sz_w (O3.lt i_ h_).1)
                clear O_ g_ O3
                refine ⟨Zb1, ?_⟩
                try simp only [nP, nN, nA, n0, nS]
                with_reducible refine ha 9 (some 4) (v_) #[true, true, true, true, true, true, true, true, true, true] (fun _ _ => by kernel_rfl) Zb1 ?_
                try simp only [nP, nN, nA, n0, nS]
                with_reducible refine any_end ?_
                refine inBlock_normal ?_
                refine inBlock_normal ?_
                refine then_normal ?_
                exact ⟨hkl, v_, by kernel_rfl, Zb1, Zi17, ee, (by rw [hw1, show c = 68 by omega, wput_D]; exact hs)⟩
               have pb43 : (c : Int) = 69 := of_decide_eq_true hb43
               have eb43 : (c : Int) = 69 := of_decide_eq_true hb43
               refine wp_cond_true (by kernel_rfl) ?_
               refine wp_region_lit ?_
               with_reducible refine wv (v) ?_
               try simp only [nP, nN, nA, n0, nS]
               with_reducible refine wv (.pointer (some ⟨g2, 32, none⟩)) ?_
               try simp only [nP, nN, nA, n0, nS]
               with_reducible refine wl (.int .i64 m.er) ⟨g2, 32, none⟩ (rowCell Zb1 (32) rfl) Tryd.underlying36 ?_
               try simp only [nP, nN, nA, n0, nS]
               with_reducible refine wq (.int .u64 ((T.nz m.er : Int))) (okIntP ((wrapU m.er) : IntKind.u64.wrap m.er = (T.nz m.er : Int)) (by kernel_rfl)) ?_
               try simp only [nP, nN, nA, n0, nS]
               with_reducible refine wc 61 #[v, .int .u64 ((T.nz m.er : Int)), .int .i64 1] (put_s hs (by have h_ := wl_len m hdt k; omega) (Nat.le_refl _) (T.nz m.er) (nz_lt _) 1) ?_
               rintro e z7 ⟨r5, rfl, hr5, t, hf_hr5⟩
               refine ⟨_, rfl, ?_⟩
               have hf_hr5 := hf_hr5.mono ee.size
               have hs := (hs.belowM t (Nat.le_refl _)).more t.size
               have Zi17 := hpB Zi17 t
               have Zb1 := hpB Zb1 t
               have ee := ee.trans (t.mono ee.size)
               clear t
               try simp only [nP, nN, nA, n0, nS]
               with_reducible refine wv (r5) ?_
               try simp only [nP, nN, nA, n0, nS]
               refine wpList_nil ?_
               refine inBlock_normal ?_
               refine inBlock_normal ?_
               refine then_normal ?_
               exact ⟨hkl, r5, by kernel_rfl, Zb1, Zi17, ee, (by rw [hw1, show c = 69 by omega, wput_E]; exact hr5)⟩
              have pb41 : (c : Int) = 88 := of_decide_eq_true hb41
              have eb41 : (c : Int) = 88 := of_decide_eq_true hb41
              refine wp_cond_true (by kernel_rfl) ?_
              refine wp_region_lit ?_
              with_reducible refine wv (v) ?_
              try simp only [nP, nN, nA, n0, nS]
              with_reducible refine wv (.pointer (some ⟨g2, 29, none⟩)) ?_
              try simp only [nP, nN, nA, n0, nS]
              with_reducible refine wg (g2) (29) ([.int .i64 m.vk, .int .u64 (m.vb : Int), .string m.vt]) (rowMid Zb1 (29) (partOf 29 (by kernel_rfl))) Tryd.underlying35 ?_
              try simp only [nP, nN, nA, n0, nS]
              with_reducible refine wc 68 #[v, .agg ([.int .i64 m.vk, .int .u64 (m.vb : Int), .string m.vt]).toArray] (vput_s hs (by have h_ := wl_len m hdt k; omega) (Nat.le_refl _) m.vk m.vb m.vt ok.vb ok.ts (hT.below ee)) ?_
              rintro e z7 ⟨r6, rfl, hr6, t, hf_hr6⟩
              refine ⟨_, rfl, ?_⟩
              have hf_hr6 := hf_hr6.mono ee.size
              have hs := (hs.belowM t (Nat.le_refl _)).more t.size
              have Zi17 := hpB Zi17 t
              have Zb1 := hpB Zb1 t
              have ee := ee.trans (t.mono ee.size)
              clear t
              try simp only [nP, nN, nA, n0, nS]
              with_reducible refine wv (r6) ?_
              try simp only [nP, nN, nA, n0, nS]
              refine wpList_nil ?_
              refine inBlock_normal ?_
              refine inBlock_normal ?_
              refine then_normal ?_
              exact ⟨hkl, r6, by kernel_rfl, Zb1, Zi17, ee, (by rw [hw1, show c = 88 by omega, wput_X]; exact hr6)⟩
             have pb39 : (c : Int) = 86 := of_decide_eq_true hb39
             have eb39 : (c : Int) = 86 := of_decide_eq_true hb39
             refine wp_cond_true (by kernel_rfl) ?_
             refine wp_region_lit ?_
             with_reducible refine wv (v) ?_
             try simp only [nP, nN, nA, n0, nS]
             with_reducible refine wv (.pointer (some ⟨g2, 28, none⟩)) ?_
             try simp only [nP, nN, nA, n0, nS]
             with_reducible refine wl (.int .u64 ((m.ve : Int))) ⟨g2, 28, none⟩ (rowCell Zb1 (28) rfl) Tryd.underlying31 ?_
             try simp only [nP, nN, nA, n0, nS]
             with_reducible refine wc 61 #[v, .int .u64 ((m.ve : Int)), .int .i64 8] (put_s hs (by have h_ := wl_len m hdt k; omega) (Nat.le_refl _) (m.ve) ok.ve 8) ?_
             rintro e z7 ⟨r7, rfl, hr7, t, hf_hr7⟩
             refine ⟨_, rfl, ?_⟩
             have hf_hr7 := hf_hr7.mono ee.size
             have hs := (hs.belowM t (Nat.le_refl _)).more t.size
             have Zi17 := hpB Zi17 t
             have Zb1 := hpB Zb1 t
             have ee := ee.trans (t.mono ee.size)
             clear t
             try simp only [nP, nN, nA, n0, nS]
             with_reducible refine wv (r7) ?_
             try simp only [nP, nN, nA, n0, nS]
             refine wpList_nil ?_
             refine inBlock_normal ?_
             refine inBlock_normal ?_
             refine then_normal ?_
             exact ⟨hkl, r7, by kernel_rfl, Zb1, Zi17, ee, (by rw [hw1, show c = 86 by omega, wput_V]; exact hr7)⟩
            have pb37 : (c : Int) = 75 := of_decide_eq_true hb37
            have eb37 : (c : Int) = 75 := of_decide_eq_true hb37
            refine wp_cond_true (by kernel_rfl) ?_
            refine wp_region_lit ?_
            with_reducible refine wv (v) ?_
            try simp only [nP, nN, nA, n0, nS]
            with_reducible refine wv (.pointer (some ⟨g2, 27, none⟩)) ?_
            try simp only [nP, nN, nA, n0, nS]
            with_reducible refine wl (.string m.ky) ⟨g2, 27, none⟩ (rowCell Zb1 (27) rfl) Tryd.underlying9 ?_
            try simp only [nP, nN, nA, n0, nS]
            with_reducible refine wc 67 #[v, .string m.ky] (puttext_s hs (by have h_ := wl_len m hdt k; omega) (Nat.le_refl _) m.ky ok.ks) ?_
            rintro e z7 ⟨r8, rfl, hr8, t, hf_hr8⟩
            refine ⟨_, rfl, ?_⟩
            have hf_hr8 := hf_hr8.mono ee.size
            have hs := (hs.belowM t (Nat.le_refl _)).more t.size
            have Zi17 := hpB Zi17 t
            have Zb1 := hpB Zb1 t
            have ee := ee.trans (t.mono ee.size)
            clear t
            try simp only [nP, nN, nA, n0, nS]
            with_reducible refine wv (r8) ?_
            try simp only [nP, nN, nA, n0, nS]
            refine wpList_nil ?_
            refine inBlock_normal ?_
            refine inBlock_normal ?_
            refine then_normal ?_
            exact ⟨hkl, r8, by kernel_rfl, Zb1, Zi17, ee, (by rw [hw1, show c = 75 by omega, wput_K]; exact hr8)⟩
           have pb35 : (c : Int) = 78 := of_decide_eq_true hb35
           have eb35 : (c : Int) = 78 := of_decide_eq_true hb35
           refine wp_cond_true (by kernel_rfl) ?_
           refine wp_region_lit ?_
           with_reducible refine wv (v) ?_
           try simp only [nP, nN, nA, n0, nS]
           with_reducible refine wv (.pointer (some ⟨g2, 26, none⟩)) ?_
           try simp only [nP, nN, nA, n0, nS]
           with_reducible refine wl (.int .i64 m.nu) ⟨g2, 26, none⟩ (rowCell Zb1 (26) rfl) Tryd.underlying3 ?_
           try simp only [nP, nN, nA, n0, nS]
           with_reducible refine wq (.int .u64 ((T.nz m.nu : Int))) (okIntP ((wrapU m.nu) : IntKind.u64.wrap m.nu = (T.nz m.nu : Int)) (by kernel_rfl)) ?_
           try simp only [nP, nN, nA, n0, nS]
           with_reducible refine wc 61 #[v, .int .u64 ((T.nz m.nu : Int)), .int .i64 4] (put_s hs (by have h_ := wl_len m hdt k; omega) (Nat.le_refl _) (T.nz m.nu) (nz_lt _) 4) ?_
           rintro e z7 ⟨r9, rfl, hr9, t, hf_hr9⟩
           refine ⟨_, rfl, ?_⟩
           have hf_hr9 := hf_hr9.mono ee.size
           have hs := (hs.belowM t (Nat.le_refl _)).more t.size
           have Zi17 := hpB Zi17 t
           have Zb1 := hpB Zb1 t
           have ee := ee.trans (t.mono ee.size)
           clear t
           try simp only [nP, nN, nA, n0, nS]
           with_reducible refine wv (r9) ?_
           try simp only [nP, nN, nA, n0, nS]
           refine wpList_nil ?_
           refine inBlock_normal ?_
           refine inBlock_normal ?_
           refine then_normal ?_
           exact ⟨hkl, r9, by kernel_rfl, Zb1, Zi17, ee, (by rw [hw1, show c = 78 by omega, wput_N]; exact hr9)⟩
          have pb33 : (c : Int) = 89 := of_decide_eq_true hb33
          have eb33 : (c : Int) = 89 := of_decide_eq_true hb33
          refine wp_cond_true (by kernel_rfl) ?_
          refine wp_region_lit ?_
          with_reducible refine wv (v) ?_
          try simp only [nP, nN, nA, n0, nS]
          with_reducible refine wv (.pointer (some ⟨g2, 25, none⟩)) ?_
          try simp only [nP, nN, nA, n0, nS]
          with_reducible refine wl (.bool m.ye) ⟨g2, 25, none⟩ (rowCell Zb1 (25) rfl) Tryd.underlying4 ?_
          generalize hb46 : m.ye = b46
          try simp only [nP, nN, nA, n0, nS]
          with_reducible refine wc 63 #[.bool b46] (bit_any b46 z6) ?_
          rintro e z7 ⟨rfl, hw_⟩
          refine ⟨_, rfl, ?_⟩
          rw [← hw_]
          clear hw_ z7
          try simp only [nP, nN, nA, n0, nS]
          with_reducible refine wc 61 #[v, .int .u64 ((T.bit b46 : Int)), .int .i64 1] (put_s hs (by have h_ := wl_len m hdt k; omega) (Nat.le_refl _) (T.bit b46) (bit_lt _) 1) ?_
          rintro e z8 ⟨r10, rfl, hr10, t, hf_hr10⟩
          refine ⟨_, rfl, ?_⟩
          have hf_hr10 := hf_hr10.mono ee.size
          have hs := (hs.belowM t (Nat.le_refl _)).more t.size
          have Zi17 := hpB Zi17 t
          have Zb1 := hpB Zb1 t
          have ee := ee.trans (t.mono ee.size)
          clear t
          try simp only [nP, nN, nA, n0, nS]
          with_reducible refine wv (r10) ?_
          try simp only [nP, nN, nA, n0, nS]
          refine wpList_nil ?_
          refine inBlock_normal ?_
          refine inBlock_normal ?_
          refine then_normal ?_
          exact ⟨hkl, r10, by kernel_rfl, Zb1, Zi17, ee, (by rw [hw1, show c = 89 by omega, wput_Y, hb46]; exact hr10)⟩
         have pb31 : (c : Int) = 80 := of_decide_eq_true hb31
         have eb31 : (c : Int) = 80 := of_decide_eq_true hb31
         refine wp_cond_true (by kernel_rfl) ?_
         refine wp_region_lit ?_
         with_reducible refine wv (v) ?_
         try simp only [nP, nN, nA, n0, nS]
         with_reducible refine wv (.pointer (some ⟨g2, 24, none⟩)) ?_
         try simp only [nP, nN, nA, n0, nS]
         with_reducible refine wl (.int .u64 ((m.st : Int))) ⟨g2, 24, none⟩ (rowCell Zb1 (24) rfl) Tryd.underlying31 ?_
         try simp only [nP, nN, nA, n0, nS]
         with_reducible refine wc 61 #[v, .int .u64 ((m.st : Int)), .int .i64 8] (put_s hs (by have h_ := wl_len m hdt k; omega) (Nat.le_refl _) (m.st) ok.st 8) ?_
         rintro e z7 ⟨r11, rfl, hr11, t, hf_hr11⟩
         refine ⟨_, rfl, ?_⟩
         have hf_hr11 := hf_hr11.mono ee.size
         have hs := (hs.belowM t (Nat.le_refl _)).more t.size
         have Zi17 := hpB Zi17 t
         have Zb1 := hpB Zb1 t
         have ee := ee.trans (t.mono ee.size)
         clear t
         try simp only [nP, nN, nA, n0, nS]
         with_reducible refine wv (r11) ?_
         try simp only [nP, nN, nA, n0, nS]
         refine wpList_nil ?_
         refine inBlock_normal ?_
         refine inBlock_normal ?_
         refine then_normal ?_
         exact ⟨hkl, r11, by kernel_rfl, Zb1, Zi17, ee, (by rw [hw1, show c = 80 by omega, wput_P]; exact hr11)⟩
        have pb29 : (c : Int) = 71 := of_decide_eq_true hb29
        have eb29 : (c : Int) = 71 := of_decide_eq_true hb29
        refine wp_cond_true (by kernel_rfl) ?_
        refine wp_region_lit ?_
        with_reducible refine wv (v) ?_
        try simp only [nP, nN, nA, n0, nS]
        with_reducible refine wv (.pointer (some ⟨g2, 23, none⟩)) ?_
        try simp only [nP, nN, nA, n0, nS]
        with_reducible refine wl (.int .i64 m.g) ⟨g2, 23, none⟩ (rowCell Zb1 (23) rfl) Tryd.underlying3 ?_
        try simp only [nP, nN, nA, n0, nS]
        with_reducible refine wq (.int .u64 ((T.nz m.g : Int))) (okIntP ((wrapU m.g) : IntKind.u64.wrap m.g = (T.nz m.g : Int)) (by kernel_rfl)) ?_
        try simp only [nP, nN, nA, n0, nS]
        with_reducible refine wc 61 #[v, .int .u64 ((T.nz m.g : Int)), .int .i64 1] (put_s hs (by have h_ := wl_len m hdt k; omega) (Nat.le_refl _) (T.nz m.g) (nz_lt _) 1) ?_
        rintro e z7 ⟨r12, rfl, hr12, t, hf_hr12⟩
        refine ⟨_, rfl, ?_⟩
        have hf_hr12 := hf_hr12.mono ee.size
        have hs := (hs.belowM t (Nat.le_refl _)).more t.size
        have Zi17 := hpB Zi17 t
        have Zb1 := hpB Zb1 t
        have ee := ee.trans (t.mono ee.size)
        clear t
        try simp only [nP, nN, nA, n0, nS]
        with_reducible refine wv (r12) ?_
        try simp only [nP, nN, nA, n0, nS]
        refine wpList_nil ?_
        refine inBlock_normal ?_
        refine inBlock_normal ?_
        refine then_normal ?_
        exact ⟨hkl, r12, by kernel_rfl, Zb1, Zi17, ee, (by rw [hw1, show c = 71 by omega, wput_G]; exact hr12)⟩
       have pb27 : (c : Int) = 73 := of_decide_eq_true hb27
       have eb27 : (c : Int) = 73 := of_decide_eq_true hb27
       refine wp_cond_true (by kernel_rfl) ?_
       refine wp_region_lit ?_
       with_reducible refine wv (v) ?_
       try simp only [nP, nN, nA, n0, nS]
       with_reducible refine wv (.pointer (some ⟨g2, 21, none⟩)) ?_
       try simp only [nP, nN, nA, n0, nS]
       with_reducible refine wg (g2) (21) ([.int .i64 m.ii, .int .i64 m.ij]) (rowMid Zb1 (21) (partOf 21 (by kernel_rfl))) Tryd.underlying26 ?_
       try simp only [nP, nN, nA, n0, nS]
       with_reducible refine wc 66 #[v, .agg ([.int .i64 m.ii, .int .i64 m.ij]).toArray] (putid_s hs (by have h_ := wl_len m hdt k; omega) (Nat.le_refl _) m.ii m.ij) ?_
       rintro e z7 ⟨r13, rfl, hr13, t, hf_hr13⟩
       refine ⟨_, rfl, ?_⟩
       have hf_hr13 := hf_hr13.mono ee.size
       have hs := (hs.belowM t (Nat.le_refl _)).more t.size
       have Zi17 := hpB Zi17 t
       have Zb1 := hpB Zb1 t
       have ee := ee.trans (t.mono ee.size)
       clear t
       try simp only [nP, nN, nA, n0, nS]
       with_reducible refine wv (r13) ?_
       try simp only [nP, nN, nA, n0, nS]
       refine wpList_nil ?_
       refine inBlock_normal ?_
       refine inBlock_normal ?_
       refine then_normal ?_
       exact ⟨hkl, r13, by kernel_rfl, Zb1, Zi17, ee, (by rw [hw1, show c = 73 by omega, wput_I]; exact hr13)⟩
      have pb25 : (c : Int) = 84 := of_decide_eq_true hb25
      have eb25 : (c : Int) = 84 := of_decide_eq_true hb25
      refine wp_cond_true (by kernel_rfl) ?_
      refine wp_region_lit ?_
      with_reducible refine wv (v) ?_
      try simp only [nP, nN, nA, n0, nS]
      with_reducible refine wv (.pointer (some ⟨g2, 17, none⟩)) ?_
      try simp only [nP, nN, nA, n0, nS]
      with_reducible refine wg (g2) (17) (m.t.cells) (rowMid Zb1 (17) (partOf 17 (by kernel_rfl))) Tryd.underlying30 ?_
      try simp only [nP, nN, nA, n0, nS]
      with_reducible refine wc 65 #[v, .agg (m.t.cells).toArray] (tput_t hs (by have h_ := wl_len m hdt k; omega) (Nat.le_refl _) m.t ((ok.below ee hB).t.more (Nat.le_trans hB ee.size)) (hT.below ee)) ?_
      rintro e z7 ⟨r14, rfl, hr14, t, hf_hr14⟩
      refine ⟨_, rfl, ?_⟩
      have hf_hr14 := hf_hr14.mono ee.size
      have hs := (hs.belowM t (Nat.le_refl _)).more t.size
      have Zi17 := hpB Zi17 t
      have Zb1 := hpB Zb1 t
      have ee := ee.trans (t.mono ee.size)
      clear t
      try simp only [nP, nN, nA, n0, nS]
      with_reducible refine wv (r14) ?_
      try simp only [nP, nN, nA, n0, nS]
      refine wpList_nil ?_
      refine inBlock_normal ?_
      refine inBlock_normal ?_
      refine then_normal ?_
      exact ⟨hkl, r14, by kernel_rfl, Zb1, Zi17, ee, (by rw [hw1, show c = 84 by omega, wput_T]; exact hr14)⟩
     have pb23 : (c : Int) = 67 := of_decide_eq_true hb23
     have eb23 : (c : Int) = 67 := of_decide_eq_true hb23
     refine wp_cond_true (by kernel_rfl) ?_
     refine wp_region_lit ?_
     with_reducible refine wv (v) ?_
     try simp only [nP, nN, nA, n0, nS]
     with_reducible refine wv (.pointer (some ⟨g2, 7, none⟩)) ?_
     try simp only [nP, nN, nA, n0, nS]
     with_reducible refine wg (g2) (7) (m.c.cells) (rowMid Zb1 (7) (partOf 7 (by kernel_rfl))) Tryd.underlying33 ?_
     try simp only [nP, nN, nA, n0, nS]
     with_reducible refine wc 64 #[v, .agg (m.c.cells).toArray] (cput_s hs (by have h_ := wl_len m hdt k; omega) (Nat.le_refl _) m.c ((ok.below ee hB).c.more (Nat.le_trans hB ee.size)) (hT.below ee)) ?_
     rintro e z7 ⟨r15, rfl, hr15, t, hf_hr15⟩
     refine ⟨_, rfl, ?_⟩
     have hf_hr15 := hf_hr15.mono ee.size
     have hs := (hs.belowM t (Nat.le_refl _)).more t.size
     have Zi17 := hpB Zi17 t
     have Zb1 := hpB Zb1 t
     have ee := ee.trans (t.mono ee.size)
     clear t
     try simp only [nP, nN, nA, n0, nS]
     with_reducible refine wv (r15) ?_
     try simp only [nP, nN, nA, n0, nS]
     refine wpList_nil ?_
     refine inBlock_normal ?_
     refine inBlock_normal ?_
     refine then_normal ?_
     exact ⟨hkl, r15, by kernel_rfl, Zb1, Zi17, ee, (by rw [hw1, show c = 67 by omega, wput_C]; exact hr15)⟩
    have pb21 : (c : Int) = 72 := of_decide_eq_true hb21
    have eb21 : (c : Int) = 72 := of_decide_eq_true hb21
    refine wp_cond_true (by kernel_rfl) ?_
    refine wp_seq_k fun K47 hK47 => ?_
    refine wp_region_lit ?_
    with_reducible refine wv (v) ?_
    try simp only [nP, nN, nA, n0, nS]
    with_reducible refine wv (.pointer (some ⟨g2, 4, none⟩)) ?_
    try simp only [nP, nN, nA, n0, nS]
    with_reducible refine wl (.bool m.ha) ⟨g2, 4, none⟩ (rowCell Zb1 (4) rfl) Tryd.underlying4 ?_
    generalize hb48 : m.ha = b48
    try simp only [nP, nN, nA, n0, nS]
    with_reducible refine wc 63 #[.bool b48] (bit_any b48 z6) ?_
    rintro e z7 ⟨rfl, hw_⟩
    refine ⟨_, rfl, ?_⟩
    rw [← hw_]
    clear hw_ z7
    try simp only [nP, nN, nA, n0, nS]
    with_reducible refine wc 61 #[v, .int .u64 ((T.bit b48 : Int)), .int .i64 1] (put_s hs (by have h_ := wl_len m hdt k; omega) (Nat.le_refl _) (T.bit b48) (bit_lt _) 1) ?_
    rintro e z8 ⟨r16, rfl, hr16, t, hf_hr16⟩
    refine ⟨_, rfl, ?_⟩
    have hf_hr16 := hf_hr16.mono ee.size
    have hs := (hs.belowM t (Nat.le_refl _)).more t.size
    have Zi17 := hpB Zi17 t
    have Zb1 := hpB Zb1 t
    have ee := ee.trans (t.mono ee.size)
    clear t
    try simp only [nP, nN, nA, n0, nS]
    with_reducible refine wv (r16) ?_
    try simp only [nP, nN, nA, n0, nS]
    refine wpList_nil ?_
    refine hK47 _ _ ?_
    refine wp_seq_k fun K49 hK49 => ?_
    refine wp_region_lit ?_
    with_reducible refine wv (.pointer (some ⟨g2, 4, none⟩)) ?_
    try simp only [nP, nN, nA, n0, nS]
    with_reducible refine wl (.bool m.ha) ⟨g2, 4, none⟩ (rowCell Zb1 (4) rfl) Tryd.underlying4 ?_
    rw [hb48]
    try simp only [nP, nN, nA, n0, nS]
    refine wpList_nil ?_
    refine hK49 _ _ ?_
    cases b48
    ·refine wp_cond_false (by kernel_rfl) ?_
     refine wp_skip ?_
     refine inBlock_normal ?_
     refine inBlock_normal ?_
     refine then_normal ?_
     exact ⟨hkl, r16, by kernel_rfl, Zb1, Zi17, ee, (by rw [hw1, show c = 72 by omega, wput_H, hb48, if_neg (by decide)]; exact hr16)⟩
    refine wp_cond_true (by kernel_rfl) ?_
    have hs : SlB z8.drew z8.drew.heap.size _ _ := SlB.drew hs
    have hr16 : SlB z8.drew z8.drew.heap.size _ _ := SlB.drew hr16
    have Zi17 : z8.drew.heap[g10]? = some (Obj.stringIter (⟨(fieldsOf m.kd).toArray⟩) (k + 1)) := Zi17
    have Zb1 : z8.drew.heap[g2]? = some (.cells (m.cells).toArray 39) := Zb1
    have ee := belowDrewS ee
    -- region 15
    with_reducible refine any_begin (fun z' => z'.heap[g2]? = some (.cells (m.cells).toArray 39 (0, 0))) 8 #[false, false, false, false, false, false, false, false] Zb1 ?_ ?_
    ·intro c_ a_ d_ v_ w_ h_; cases d_ <;> exact h_
    generalize z8.drew = z9 at Zb1 ee hs hr16 Zi17 ⊢
    with_reducible refine ha 0 (some 44) (r16) #[true, false, false, false, false, false, false, false] (fun _ _ => by kernel_rfl) Zb1 ?_
    try simp only [nP, nN, nA, n0, nS]
    with_reducible refine ha 1 (some 45) (.pointer (some ⟨g2, 5, none⟩)) #[true, true, false, false, false, false, false, false] (fun _ _ => by kernel_rfl) Zb1 ?_
    try simp only [nP, nN, nA, n0, nS]
    with_reducible refine hg_ 2 (some 46) (g2) (5) ([.int .u32 (m.vr : Int), .int .i64 m.vn]) #[true, true, true, false, false, false, false, false] (fun _ h_ => (rowMid h_ (5) (partOf 5 (by kernel_rfl)))) Tryd.underlying24 Zb1 ?_
    try simp only [nP, nN, nA, n0, nS]
    with_reducible refine ha 4 (some 48) (.pointer (some ⟨g2, 7, none⟩)) #[true, true, true, false, true, false, false, false] (fun _ _ => by kernel_rfl) Zb1 ?_
    try simp only [nP, nN, nA, n0, nS]
    with_reducible refine hg_ 5 (some 49) (g2) (7) (m.c.cells) #[true, true, true, false, true, true, false, false] (fun _ h_ => (rowMid h_ (7) (partOf 7 (by kernel_rfl)))) Tryd.underlying33 Zb1 ?_
    try simp only [nP, nN, nA, n0, nS]
    with_reducible refine any1 3 ?_
    with_reducible refine st_f 3 (some 47) 62 #[r16, .agg ([.int .u32 (m.vr : Int), .int .i64 m.vn]).toArray] #[true, true, true, true, true, true, false, false] (bput_s hr16 (by have h_ := wl_len m hdt k; have h0_ := put_len2 (m.wl k) (T.bit true) 1; omega) m.vr m.vn ok.vr) ?_
    rintro e z10 ⟨r19, rfl, hr19, t, hf_hr19⟩
    refine ⟨_, rfl, ?_⟩
    have hf_hr19 := hf_hr19.mono ee.size
    have hs := (hs.belowM t (Nat.le_refl _)).more t.size
    have hr16 := (hr16.belowM t (Nat.le_refl _)).more t.size
    have Zi17 := hpB Zi17 t
    have Zb1 := hpB Zb1 t
    have ee := ee.trans (t.mono ee.size)
    clear t
    refine ⟨Zb1, ?_⟩
    try simp only [nP, nN, nA, n0, nS]
    with_reducible refine any1 6 ?_
    with_reducible refine st_f 6 (some 50) 64 #[r19, .agg (m.c.cells).toArray] #[true, true, true, true, true, true, true, false] (cput_s hr19 (by have h_ := wl_len m hdt k; have h0_ := put_len2 (m.wl k) (T.bit true) 1; have h1_ := B.put_len (C.put (m.wl k) (T.bit true) 1) m.vr m.vn; omega) (Nat.le_refl _) m.c ((ok.below ee hB).c.more (Nat.le_trans hB ee.size)) (hT.below ee)) ?_
    rintro e z11 ⟨r20, rfl, hr20, t, hf_hr20⟩
    refine ⟨_, rfl, ?_⟩
    have hf_hr20 := hf_hr20.mono ee.size
    have hs := (hs.belowM t (Nat.le_refl _)).more t.size
    have hr16 := (hr16.belowM t (Nat.le_refl _)).more t.size
    have hr19 := (hr19.belowM t (Nat.le_refl _)).more t.size
    have Zi17 := hpB Zi17 t
    have Zb1 := hpB Zb1 t
    have ee := ee.trans (t.mono ee.size)
    clear t
    refine ⟨Zb1, ?_⟩
    try simp only [nP, nN, nA, n0, nS]
    with_reducible refine ha 7 (some 4) (r20) #[true, true, true, true, true, true, true, true] (fun _ _ => by kernel_rfl) Zb1 ?_
    try simp only [nP, nN, nA, n0, nS]
    with_reducible refine any_end ?_
    refine inBlock_normal ?_
    refine inBlock_normal ?_
    refine then_normal ?_
    exact ⟨hkl, r20, by kernel_rfl, Zb1, Zi17, ee, (by rw [hw1, show c = 72 by omega, wput_H, hb48, if_pos rfl]; exact hr20)⟩
   have pb19 : (c : Int) = 83 := of_decide_eq_true hb19
   have eb19 : (c : Int) = 83 := of_decide_eq_true hb19
   refine wp_cond_true (by kernel_rfl) ?_
   refine wp_region_lit ?_
   with_reducible refine wv (v) ?_
   try simp only [nP, nN, nA, n0, nS]
   with_reducible refine wv (.pointer (some ⟨g2, 3, none⟩)) ?_
   try simp only [nP, nN, nA, n0, nS]
   with_reducible refine wl (.int .i64 m.sl) ⟨g2, 3, none⟩ (rowCell Zb1 (3) rfl) Tryd.underlying3 ?_
   try simp only [nP, nN, nA, n0, nS]
   with_reducible refine wq (.int .u64 ((T.nz m.sl : Int))) (okIntP ((wrapU m.sl) : IntKind.u64.wrap m.sl = (T.nz m.sl : Int)) (by kernel_rfl)) ?_
   try simp only [nP, nN, nA, n0, nS]
   with_reducible refine wc 61 #[v, .int .u64 ((T.nz m.sl : Int)), .int .i64 4] (put_s hs (by have h_ := wl_len m hdt k; omega) (Nat.le_refl _) (T.nz m.sl) (nz_lt _) 4) ?_
   rintro e z7 ⟨r21, rfl, hr21, t, hf_hr21⟩
   refine ⟨_, rfl, ?_⟩
   have hf_hr21 := hf_hr21.mono ee.size
   have hs := (hs.belowM t (Nat.le_refl _)).more t.size
   have Zi17 := hpB Zi17 t
   have Zb1 := hpB Zb1 t
   have ee := ee.trans (t.mono ee.size)
   clear t
   try simp only [nP, nN, nA, n0, nS]
   with_reducible refine wv (r21) ?_
   try simp only [nP, nN, nA, n0, nS]
   refine wpList_nil ?_
   refine inBlock_normal ?_
   refine inBlock_normal ?_
   refine then_normal ?_
   exact ⟨hkl, r21, by kernel_rfl, Zb1, Zi17, ee, (by rw [hw1, show c = 83 by omega, wput_S]; exact hr21)⟩
  have pb17 : (c : Int) = 66 := of_decide_eq_true hb17
  have eb17 : (c : Int) = 66 := of_decide_eq_true hb17
  refine wp_cond_true (by kernel_rfl) ?_
  refine wp_region_lit ?_
  with_reducible refine wv (v) ?_
  try simp only [nP, nN, nA, n0, nS]
  with_reducible refine wv (.pointer (some ⟨g2, 1, none⟩)) ?_
  try simp only [nP, nN, nA, n0, nS]
  with_reducible refine wg (g2) (1) ([.int .u32 (m.br : Int), .int .i64 m.bn]) (rowMid Zb1 (1) (partOf 1 (by kernel_rfl))) Tryd.underlying24 ?_
  try simp only [nP, nN, nA, n0, nS]
  with_reducible refine wc 62 #[v, .agg ([.int .u32 (m.br : Int), .int .i64 m.bn]).toArray] (bput_s hs (by have h_ := wl_len m hdt k; omega) m.br m.bn ok.br) ?_
  rintro e z7 ⟨r22, rfl, hr22, t, hf_hr22⟩
  refine ⟨_, rfl, ?_⟩
  have hf_hr22 := hf_hr22.mono ee.size
  have hs := (hs.belowM t (Nat.le_refl _)).more t.size
  have Zi17 := hpB Zi17 t
  have Zb1 := hpB Zb1 t
  have ee := ee.trans (t.mono ee.size)
  clear t
  try simp only [nP, nN, nA, n0, nS]
  with_reducible refine wv (r22) ?_
  try simp only [nP, nN, nA, n0, nS]
  refine wpList_nil ?_
  refine inBlock_normal ?_
  refine inBlock_normal ?_
  refine then_normal ?_
  exact ⟨hkl, r22, by kernel_rfl, Zb1, Zi17, ee, (by rw [hw1, show c = 66 by omega, wput_B]; exact hr22)⟩
 have hnx := fun ty => Lib.run_next_end_at (P := Tryd.prog) zl10 g10 ⟨(fieldsOf m.kd).toArray⟩ k ty Zi17 (by show ¬ k < (fieldsOf m.kd).toArray.size; rw [List.size_toArray]; exact hkl)
 with_reducible refine wn (.tuple #[.bool false]) zl10 hnx ?_
 try simp only [nP, nN, nA, n0, nS]
 clear hnx
 rw [wl_end m k hkl] at hs
 have hs_end := trivial
 with_reducible refine wv (.bool false) ?_
 try simp only [nP, nN, nA, n0, nS]
 refine wpList_nil ?_
 refine hK12 _ _ ?_
 refine wp_seq_k fun K50 hK50 => ?_
 refine wp_cond_false (by kernel_rfl) ?_
 refine wp_exit ?_
 refine then_exit ?_
 refine then_exit ?_
 refine inBlock_here ?_
 refine hK8 _ _ ?_
 refine wp_seq_k fun K51 hK51 => ?_
 refine wp_region_lit ?_
 with_reducible refine wv (v) ?_
 try simp only [nP, nN, nA, n0, nS]
 with_reducible refine wv (v) ?_
 try simp only [nP, nN, nA, n0, nS]
 with_reducible refine wv (.int .i64 0) ?_
 try simp only [nP, nN, nA, n0, nS]
 refine wpList_nil ?_
 refine hK51 _ _ ?_
 refine wp_ret ?_
 exact bodyPost_ret (v := .tuple #[v, .int .i64 0]) (by kernel_rfl) rfl ⟨⟨_, m.wr, 0, rfl, hs, by rw [hb5]; rfl, by rw [hb5]; rfl⟩, ee⟩
end Go.Proofs.YtjofjpmhokjhnaaDoor
