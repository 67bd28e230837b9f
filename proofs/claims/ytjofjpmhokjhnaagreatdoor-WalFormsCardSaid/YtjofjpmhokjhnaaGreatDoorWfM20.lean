import Derived.Test.YtjofjpmhokjhnaaGreatDoorWfM19
import Derived.Test.YtjofjpmhokjhnaaGreatDoorWfM15
import Derived.Test.YtjofjpmhokjhnaaGreatDoorWfM18
import Derived.Test.YtjofjpmhokjhnaaGreatDoorWfM16
set_option linter.unusedSimpArgs false
set_option linter.unusedVariables false
namespace Go.Proofs.YtjofjpmhokjhnaaGreatDoor
set_option maxRecDepth 20000
open Go.RowKit T
set_option maxHeartbeats 3200000 in
theorem cput_no {w : World} {B : Nat} {v : Value} {l : List UInt8} (h : SlB w B v l) (hl : l.length ≤ 2147483648) (hB : B ≤ w.heap.size) (x : Cm) (ok : CmOk w w.heap.size x) (hT : Tabs w) (hf : x.formed = false) : Calls Tryz.prog 34 #[v, .agg x.cells.toArray] w (GotB w l) := by
 have HT := Lib.hid hT
 have HF := Lib.hid (fun z (hz : Below w.heap.size w z) => cformed_any x.k x.s x.q x.rs x.ws x.A1 x.c1 x.A2 x.c2 x.i x.j x.g x.st x.y z w.heap.size hz.size (ok.below hz (Nat.le_refl _)) (hT.below hz))
 have HFE : Hid (x.formed = T.cformed x.k x.s x.q x.rs x.ws x.i x.j x.g x.st x.y) := rfl
 rw [← HFE.out, hf] at HF
 have HO := Lib.hid ok
 clear hT ok hf HFE
 obtain ⟨w0, hw0⟩ : ∃ w0, w0 = w.alloc (.cells x.cells.toArray 33) := ⟨_, rfl⟩
 have ee : Below w.heap.size w w0 := by rw [hw0]; exact (Below.refl _ _).alloc (Nat.le_refl _) _
 have Zt : w0.heap[w.heap.size]? = some (.cells x.cells.toArray 33) := by rw [hw0]; exact hpN _ _ rfl
 have H := Lib.hid h
 clear h
 go_enter Tryz.func34, Tryz.ntmps34
 go_upto_region 1 with fail
 rw [← hw0]
 clear hw0
 refine wp_region_lit ?_
 refine wpList_load_mid rfl 33 _ rfl (w.heap.size) 0 rfl x.cells _ (rowAt Zt) Tryz.underlying33 rfl sizeCm ?_
 go_wp2_with fail
 refine (HF.out w0 ee).mono ?_
 rintro e z1 ⟨rfl, t⟩
 have Zt := hpB Zt t
 have ee := ee.trans (t.mono ee.size)
 clear t
 clear HF
 go_wp2_with fail
 have sz_ := ee.size
 refine (clone_s (H.out.belowM ee hB) (by omega) (Nat.le_trans hB ee.size)).mono ?_
 rintro e z2 ⟨v2, rfl, h2, t, fr⟩
 have fr := Fresh.mono fr sz_
 clear sz_
 have Zt := hpB Zt t
 have ee := ee.trans (t.mono ee.size)
 clear t
 go_wp2_with fail
 go_ret
 exact ⟨v2, rfl, h2, ee, fr⟩
set_option maxHeartbeats 3200000 in
theorem cput_0 {w : World} {B : Nat} {v : Value} {l : List UInt8} (h : SlB w B v l) (hl : l.length ≤ 2147483648) (hB : B ≤ w.heap.size) (x : Cm) (ok : CmOk w w.heap.size x) (hT : Tabs w) (hf : x.formed = true) (hk : x.k = 0) : Calls Tryz.prog 34 #[v, .agg x.cells.toArray] w (GotB w (C.put l 0 1)) := by
 have HX0 : Hid (x.cells[0]? = some (.int .i64 0)) := by show _ = _; rw [← hk]; rfl
 have HT := Lib.hid hT
 have HF := Lib.hid (fun z (hz : Below w.heap.size w z) => cformed_any x.k x.s x.q x.rs x.ws x.A1 x.c1 x.A2 x.c2 x.i x.j x.g x.st x.y z w.heap.size hz.size (ok.below hz (Nat.le_refl _)) (hT.below hz))
 have HFE : Hid (x.formed = T.cformed x.k x.s x.q x.rs x.ws x.i x.j x.g x.st x.y) := rfl
 rw [← HFE.out, hf] at HF
 have HO := Lib.hid ok
 clear hT ok hf HFE
 have HL1 := put_len2 l 0 1
 obtain ⟨w0, hw0⟩ : ∃ w0, w0 = w.alloc (.cells x.cells.toArray 33) := ⟨_, rfl⟩
 have ee : Below w.heap.size w w0 := by rw [hw0]; exact (Below.refl _ _).alloc (Nat.le_refl _) _
 have Zt : w0.heap[w.heap.size]? = some (.cells x.cells.toArray 33) := by rw [hw0]; exact hpN _ _ rfl
 have H := Lib.hid h
 clear h
 go_enter Tryz.func34, Tryz.ntmps34
 go_upto_region 1 with fail
 rw [← hw0]
 clear hw0
 refine wp_region_lit ?_
 refine wpList_load_mid rfl 33 _ rfl (w.heap.size) 0 rfl x.cells _ (rowAt Zt) Tryz.underlying33 rfl sizeCm ?_
 go_wp2_with fail
 refine (HF.out w0 ee).mono ?_
 rintro e z1 ⟨rfl, t⟩
 have Zt := hpB Zt t
 have ee := ee.trans (t.mono ee.size)
 clear t
 clear HF
 have x0 := rowCell Zt 0 (v := .int .i64 0) (by rw [← hk]; rfl)
 clear hk
 go_wp2_with fail
 have sz_ := ee.size
 refine (put_s (H.out.belowM ee hB) (by omega) (Nat.le_trans hB ee.size) 0 (by omega) 1).mono ?_
 rintro e z2 ⟨v1, rfl, g1, t, fr⟩
 have fr := Fresh.mono fr sz_
 clear sz_
 have Zt := hpB Zt t
 have ee := ee.trans (t.mono ee.size)
 clear t
 have x0 := rowCell Zt 0 (v := .int .i64 0) HX0.out
 go_wp2_with fail
 go_ret
 exact ⟨v1, rfl, g1, ee, fr⟩
set_option maxHeartbeats 3200000 in
theorem cput_1 {w : World} {B : Nat} {v : Value} {l : List UInt8} (h : SlB w B v l) (hl : l.length ≤ 2147483648) (hB : B ≤ w.heap.size) (x : Cm) (ok : CmOk w w.heap.size x) (hT : Tabs w) (hf : x.formed = true) (hk : x.k = 1) : Calls Tryz.prog 34 #[v, .agg x.cells.toArray] w (GotB w (tput (C.put l 1 1) x.s x.q x.rs x.ws)) := by
 have HX0 : Hid (x.cells[0]? = some (.int .i64 1)) := by show _ = _; rw [← hk]; rfl
 have HT := Lib.hid hT
 have HF := Lib.hid (fun z (hz : Below w.heap.size w z) => cformed_any x.k x.s x.q x.rs x.ws x.A1 x.c1 x.A2 x.c2 x.i x.j x.g x.st x.y z w.heap.size hz.size (ok.below hz (Nat.le_refl _)) (hT.below hz))
 have HFE : Hid (x.formed = T.cformed x.k x.s x.q x.rs x.ws x.i x.j x.g x.st x.y) := rfl
 rw [← HFE.out, hf] at HF
 have HO := Lib.hid ok
 clear hT ok hf HFE
 have HL1 := put_len2 l 1 1
 obtain ⟨w0, hw0⟩ : ∃ w0, w0 = w.alloc (.cells x.cells.toArray 33) := ⟨_, rfl⟩
 have ee : Below w.heap.size w w0 := by rw [hw0]; exact (Below.refl _ _).alloc (Nat.le_refl _) _
 have Zt : w0.heap[w.heap.size]? = some (.cells x.cells.toArray 33) := by rw [hw0]; exact hpN _ _ rfl
 have H := Lib.hid h
 clear h
 go_enter Tryz.func34, Tryz.ntmps34
 go_upto_region 1 with fail
 rw [← hw0]
 clear hw0
 refine wp_region_lit ?_
 refine wpList_load_mid rfl 33 _ rfl (w.heap.size) 0 rfl x.cells _ (rowAt Zt) Tryz.underlying33 rfl sizeCm ?_
 go_wp2_with fail
 refine (HF.out w0 ee).mono ?_
 rintro e z1 ⟨rfl, t⟩
 have Zt := hpB Zt t
 have ee := ee.trans (t.mono ee.size)
 clear t
 clear HF
 have x0 := rowCell Zt 0 (v := .int .i64 1) (by rw [← hk]; rfl)
 clear hk
 go_wp2_with fail
 have sz_ := ee.size
 refine (put_s (H.out.belowM ee hB) (by omega) (Nat.le_trans hB ee.size) 1 (by omega) 1).mono ?_
 rintro e z2 ⟨v1, rfl, g1, t, fr⟩
 have fr := Fresh.mono fr sz_
 clear sz_
 have Zt := hpB Zt t
 have ee := ee.trans (t.mono ee.size)
 clear t
 have x0 := rowCell Zt 0 (v := .int .i64 1) HX0.out
 go_upto_region 6 with fail
 refine wp_region_lit ?_
 iterate 27 (first | with_reducible refine isLoad (ty := 30) rfl ?_ | go_step)
 refine wpList_load_mid rfl 30 _ rfl (w.heap.size) 1 rfl ([.int .i64 x.s, .int .i64 x.q, .slice x.A1 x.rs.length x.c1, .slice x.A2 x.ws.length x.c2]) _ (rowMid Zt 1 (by intro j v hj; match j, hj with | 0, hj => exact hj | 1, hj => exact hj | 2, hj => exact hj | 3, hj => exact hj)) Tryz.underlying30 rfl sizeTx ?_
 clear x0
 go_wp2_with fail
 have sz_ := ee.size
 refine (tput_s g1 (by omega) (Nat.le_refl _) x.s x.q x.rs x.ws x.A1 x.c1 x.A2 x.c2 (TxOk.more (TxOk.below HO.out ee (Nat.le_refl _)) ee.size) (HT.out.below ee)).mono ?_
 rintro e z3 ⟨v2, rfl, g2, t, fr⟩
 have fr := Fresh.mono fr sz_
 clear sz_
 have Zt := hpB Zt t
 have ee := ee.trans (t.mono ee.size)
 clear t
 go_wp2_with fail
 go_ret
 exact ⟨v2, rfl, g2, ee, fr⟩
set_option maxHeartbeats 3200000 in
theorem cput_2 {w : World} {B : Nat} {v : Value} {l : List UInt8} (h : SlB w B v l) (hl : l.length ≤ 2147483648) (hB : B ≤ w.heap.size) (x : Cm) (ok : CmOk w w.heap.size x) (hT : Tabs w) (hf : x.formed = true) (hk : x.k = 2) (gn : Nat) (hg : x.g = (gn : Int)) (hg4 : gn < 4) (hst : x.st < 9223372036854775808) : Calls Tryz.prog 34 #[v, .agg x.cells.toArray] w (GotB w (C.put (C.put (idput (C.put l 2 1) x.i x.j) gn 1) x.st 8)) := by
 have HX0 : Hid (x.cells[0]? = some (.int .i64 2)) := by show _ = _; rw [← hk]; rfl
 have HX7 : Hid (x.cells[7]? = some (.int .i64 (gn : Int))) := by show _ = _; rw [← hg]; rfl
 have HL2 := idput_len (C.put l 2 1) x.i x.j
 have HL3 := put_len2 (idput (C.put l 2 1) x.i x.j) gn 1
 have k1 : IntKind.u64.wrap (gn : Int) = (gn : Int) := wrapOf (by omega)
 clear hg
 have HT := Lib.hid hT
 have HF := Lib.hid (fun z (hz : Below w.heap.size w z) => cformed_any x.k x.s x.q x.rs x.ws x.A1 x.c1 x.A2 x.c2 x.i x.j x.g x.st x.y z w.heap.size hz.size (ok.below hz (Nat.le_refl _)) (hT.below hz))
 have HFE : Hid (x.formed = T.cformed x.k x.s x.q x.rs x.ws x.i x.j x.g x.st x.y) := rfl
 rw [← HFE.out, hf] at HF
 have HO := Lib.hid ok
 clear hT ok hf HFE
 have HL1 := put_len2 l 2 1
 obtain ⟨w0, hw0⟩ : ∃ w0, w0 = w.alloc (.cells x.cells.toArray 33) := ⟨_, rfl⟩
 have ee : Below w.heap.size w w0 := by rw [hw0]; exact (Below.refl _ _).alloc (Nat.le_refl _) _
 have Zt : w0.heap[w.heap.size]? = some (.cells x.cells.toArray 33) := by rw [hw0]; exact hpN _ _ rfl
 have H := Lib.hid h
 clear h
 go_enter Tryz.func34, Tryz.ntmps34
 go_upto_region 1 with fail
 rw [← hw0]
 clear hw0
 refine wp_region_lit ?_
 refine wpList_load_mid rfl 33 _ rfl (w.heap.size) 0 rfl x.cells _ (rowAt Zt) Tryz.underlying33 rfl sizeCm ?_
 go_wp2_with fail
 refine (HF.out w0 ee).mono ?_
 rintro e z1 ⟨rfl, t⟩
 have Zt := hpB Zt t
 have ee := ee.trans (t.mono ee.size)
 clear t
 clear HF
 have x0 := rowCell Zt 0 (v := .int .i64 2) (by rw [← hk]; rfl)
 clear hk
 go_wp2_with fail
 have sz_ := ee.size
 refine (put_s (H.out.belowM ee hB) (by omega) (Nat.le_trans hB ee.size) 2 (by omega) 1).mono ?_
 rintro e z2 ⟨v1, rfl, g1, t, fr⟩
 have fr := Fresh.mono fr sz_
 clear sz_
 have Zt := hpB Zt t
 have ee := ee.trans (t.mono ee.size)
 clear t
 have x0 := rowCell Zt 0 (v := .int .i64 2) HX0.out
 go_upto_region 8 with fail
 clear x0
 have g1 : SlB z2.drew z2.drew.heap.size v1 (C.put l 2 1) := g1.drew
 have Zt : z2.drew.heap[w.heap.size]? = some (.cells x.cells.toArray 33) := Zt
 have ee := belowDrewS ee
 refine wp_region_held_drew (S := fun z' => z'.rangeAt w.heap.size 5 [.int .i64 x.i, .int .i64 x.j] ∧ z'.cell? ⟨w.heap.size, 7, none⟩ = some (.int .i64 (gn : Int)) ∧ z'.cell? ⟨w.heap.size, 8, none⟩ = some (.int .u64 (x.st : Int))) (by kernel_rfl) ⟨rowMid Zt 5 (by intro j v hj; match j, hj with | 0, hj => exact hj | 1, hj => exact hj), rowCell Zt 7 HX7.out, rowCell Zt 8 rfl⟩ (fun hH => ?_)
 clear hH
 generalize z2.drew = z3 at Zt g1 ee ⊢
 refine zU 0 (v1) rfl ⟨rowMid Zt 5 (by intro j v hj; match j, hj with | 0, hj => exact hj | 1, hj => exact hj), rowCell Zt 7 HX7.out, rowCell Zt 8 rfl⟩ ?_
 try simp only [Act.put, zL]
 refine zU 1 (.pointer (some ⟨w.heap.size, 5, none⟩)) rfl ⟨rowMid Zt 5 (by intro j v hj; match j, hj with | 0, hj => exact hj | 1, hj => exact hj), rowCell Zt 7 HX7.out, rowCell Zt 8 rfl⟩ ?_
 try simp only [Act.put, zL]
 refine zT 2 (.agg ([.int .i64 x.i, .int .i64 x.j]).toArray) rfl (yieldsIf_load_mid (by rfl) 26 _ rfl (w.heap.size) (5) rfl ([.int .i64 x.i, .int .i64 x.j]) _ (fun _ h => h.1) Tryz.underlying26 rfl sizeId) ⟨rowMid Zt 5 (by intro j v hj; match j, hj with | 0, hj => exact hj | 1, hj => exact hj), rowCell Zt 7 HX7.out, rowCell Zt 8 rfl⟩ ?_
 try simp only [Act.put, zL]
 refine zU 4 (.pointer (some ⟨w.heap.size, 7, none⟩)) rfl ⟨rowMid Zt 5 (by intro j v hj; match j, hj with | 0, hj => exact hj | 1, hj => exact hj), rowCell Zt 7 HX7.out, rowCell Zt 8 rfl⟩ ?_
 try simp only [Act.put, zL]
 refine zT 5 (.int .i64 (gn : Int)) rfl (Or.inl ⟨by rfl, fun w_ hS_ => by (obtain ⟨h1_, h2_, h3_⟩ := hS_; go_simp)⟩) ⟨rowMid Zt 5 (by intro j v hj; match j, hj with | 0, hj => exact hj | 1, hj => exact hj), rowCell Zt 7 HX7.out, rowCell Zt 8 rfl⟩ ?_
 try simp only [Act.put, zL]
 refine zT 6 (.int .u64 (gn : Int)) rfl (Or.inl ⟨by rfl, fun w_ hS_ => by (go_simp; first | done | (rw [k1]))⟩) ⟨rowMid Zt 5 (by intro j v hj; match j, hj with | 0, hj => exact hj | 1, hj => exact hj), rowCell Zt 7 HX7.out, rowCell Zt 8 rfl⟩ ?_
 try simp only [Act.put, zL]
 refine zU 8 (.pointer (some ⟨w.heap.size, 8, none⟩)) rfl ⟨rowMid Zt 5 (by intro j v hj; match j, hj with | 0, hj => exact hj | 1, hj => exact hj), rowCell Zt 7 HX7.out, rowCell Zt 8 rfl⟩ ?_
 try simp only [Act.put, zL]
 refine zT 9 (.int .u64 (x.st : Int)) rfl (Or.inl ⟨by rfl, fun w_ hS_ => by (obtain ⟨h1_, h2_, h3_⟩ := hS_; go_simp)⟩) ⟨rowMid Zt 5 (by intro j v hj; match j, hj with | 0, hj => exact hj | 1, hj => exact hj), rowCell Zt 7 HX7.out, rowCell Zt 8 rfl⟩ ?_
 try simp only [Act.put, zL]
 refine wpAnyH_ready (rs := [3]) (by kernel_rfl) (by simp) ?_
 refine AllReadyH.cons rfl (fun K hK => ?_) AllReadyH.nil
 rw [if_pos (by rfl)]
 go_simp
 have sz_ := ee.size
 go_wp2_with (go_at_call 87; refine (putid_s g1 (by omega) (Nat.le_refl _) x.i x.j).mono ?_; rintro e z4 ⟨v2, rfl, g2, t, fr⟩)
 have fr := Fresh.mono fr sz_
 clear sz_
 have Zt := hpB Zt t
 have ee := ee.trans (t.mono ee.size)
 clear t
 refine hK.out _ _ ⟨rowMid Zt 5 (by intro j v hj; match j, hj with | 0, hj => exact hj | 1, hj => exact hj), rowCell Zt 7 HX7.out, rowCell Zt 8 rfl⟩ (fun hH => ?_)
 clear hK K hH
 try simp only [Act.put, zL]
 refine wpAnyH_ready (rs := [7]) (by kernel_rfl) (by simp) ?_
 refine AllReadyH.cons rfl (fun K hK => ?_) AllReadyH.nil
 rw [if_pos (by rfl)]
 go_simp
 have sz_ := ee.size
 go_wp2_with (go_at_call 32; refine (put_s g2 (by omega) (Nat.le_refl _) gn (by omega) 1).mono ?_; rintro e z5 ⟨v3, rfl, g3, t, fr⟩)
 have fr := Fresh.mono fr sz_
 clear sz_
 have Zt := hpB Zt t
 have ee := ee.trans (t.mono ee.size)
 clear t
 refine hK.out _ _ ⟨rowMid Zt 5 (by intro j v hj; match j, hj with | 0, hj => exact hj | 1, hj => exact hj), rowCell Zt 7 HX7.out, rowCell Zt 8 rfl⟩ (fun hH => ?_)
 clear hK K hH
 try simp only [Act.put, zL]
 refine wpAnyH_ready (rs := [10]) (by kernel_rfl) (by simp) ?_
 refine AllReadyH.cons rfl (fun K hK => ?_) AllReadyH.nil
 rw [if_pos (by rfl)]
 go_simp
 have sz_ := ee.size
 go_wp2_with (go_at_call 32; refine (put_s g3 (by omega) (Nat.le_refl _) x.st (by omega) 8).mono ?_; rintro e z6 ⟨v4, rfl, g4, t, fr⟩)
 have fr := Fresh.mono fr sz_
 clear sz_
 have Zt := hpB Zt t
 have ee := ee.trans (t.mono ee.size)
 clear t
 refine hK.out _ _ ⟨rowMid Zt 5 (by intro j v hj; match j, hj with | 0, hj => exact hj | 1, hj => exact hj), rowCell Zt 7 HX7.out, rowCell Zt 8 rfl⟩ (fun hH => ?_)
 clear hK K hH
 try simp only [Act.put, zL]
 refine zU 11 (v4) rfl ⟨rowMid Zt 5 (by intro j v hj; match j, hj with | 0, hj => exact hj | 1, hj => exact hj), rowCell Zt 7 HX7.out, rowCell Zt 8 rfl⟩ ?_
 try simp only [Act.put, zL]
 refine wpAnyH_done (by kernel_rfl) ?_ _
 go_wp2_with fail
 go_ret
 exact ⟨v4, rfl, g4, ee, fr⟩
set_option maxHeartbeats 3200000 in
theorem cput_3f {w : World} {B : Nat} {v : Value} {l : List UInt8} (h : SlB w B v l) (hl : l.length ≤ 2147483648) (hB : B ≤ w.heap.size) (x : Cm) (ok : CmOk w w.heap.size x) (hT : Tabs w) (hf : x.formed = true) (hk : x.k = 3) (gn : Nat) (hg : x.g = (gn : Int)) (hg4 : gn < 4) (hy : x.y = false) : Calls Tryz.prog 34 #[v, .agg x.cells.toArray] w (GotB w (C.put (C.put (idput (C.put l 3 1) x.i x.j) gn 1) 0 1)) := by
 have HX0 : Hid (x.cells[0]? = some (.int .i64 3)) := by show _ = _; rw [← hk]; rfl
 have HX9 : Hid (x.cells[9]? = some (.bool false)) := by show _ = _; rw [← hy]; rfl
 clear hy
 have HX7 : Hid (x.cells[7]? = some (.int .i64 (gn : Int))) := by show _ = _; rw [← hg]; rfl
 have HL2 := idput_len (C.put l 3 1) x.i x.j
 have HL3 := put_len2 (idput (C.put l 3 1) x.i x.j) gn 1
 have k1 : IntKind.u64.wrap (gn : Int) = (gn : Int) := wrapOf (by omega)
 clear hg
 have HT := Lib.hid hT
 have HF := Lib.hid (fun z (hz : Below w.heap.size w z) => cformed_any x.k x.s x.q x.rs x.ws x.A1 x.c1 x.A2 x.c2 x.i x.j x.g x.st x.y z w.heap.size hz.size (ok.below hz (Nat.le_refl _)) (hT.below hz))
 have HFE : Hid (x.formed = T.cformed x.k x.s x.q x.rs x.ws x.i x.j x.g x.st x.y) := rfl
 rw [← HFE.out, hf] at HF
 have HO := Lib.hid ok
 clear hT ok hf HFE
 have HL1 := put_len2 l 3 1
 obtain ⟨w0, hw0⟩ : ∃ w0, w0 = w.alloc (.cells x.cells.toArray 33) := ⟨_, rfl⟩
 have ee : Below w.heap.size w w0 := by rw [hw0]; exact (Below.refl _ _).alloc (Nat.le_refl _) _
 have Zt : w0.heap[w.heap.size]? = some (.cells x.cells.toArray 33) := by rw [hw0]; exact hpN _ _ rfl
 have H := Lib.hid h
 clear h
 go_enter Tryz.func34, Tryz.ntmps34
 go_upto_region 1 with fail
 rw [← hw0]
 clear hw0
 refine wp_region_lit ?_
 refine wpList_load_mid rfl 33 _ rfl (w.heap.size) 0 rfl x.cells _ (rowAt Zt) Tryz.underlying33 rfl sizeCm ?_
 go_wp2_with fail
 refine (HF.out w0 ee).mono ?_
 rintro e z1 ⟨rfl, t⟩
 have Zt := hpB Zt t
 have ee := ee.trans (t.mono ee.size)
 clear t
 clear HF
 have x0 := rowCell Zt 0 (v := .int .i64 3) (by rw [← hk]; rfl)
 clear hk
 go_wp2_with fail
 have sz_ := ee.size
 refine (put_s (H.out.belowM ee hB) (by omega) (Nat.le_trans hB ee.size) 3 (by omega) 1).mono ?_
 rintro e z2 ⟨v1, rfl, g1, t, fr⟩
 have fr := Fresh.mono fr sz_
 clear sz_
 have Zt := hpB Zt t
 have ee := ee.trans (t.mono ee.size)
 clear t
 have x0 := rowCell Zt 0 (v := .int .i64 3) HX0.out
 have x9 := rowCell Zt 9 (v := .bool false) HX9.out
 go_upto_region 13 with fail
 clear x0 x9
 have g1 : SlB z2.drew z2.drew.heap.size v1 (C.put l 3 1) := g1.drew
 have Zt : z2.drew.heap[w.heap.size]? = some (.cells x.cells.toArray 33) := Zt
 have ee := belowDrewS ee
 refine wp_region_held_drew (S := fun z' => z'.rangeAt w.heap.size 5 [.int .i64 x.i, .int .i64 x.j] ∧ z'.cell? ⟨w.heap.size, 7, none⟩ = some (.int .i64 (gn : Int))) (by kernel_rfl) ⟨rowMid Zt 5 (by intro j v hj; match j, hj with | 0, hj => exact hj | 1, hj => exact hj), rowCell Zt 7 HX7.out⟩ (fun hH => ?_)
 clear hH
 generalize z2.drew = z3 at Zt g1 ee ⊢
 refine zU 0 (v1) rfl ⟨rowMid Zt 5 (by intro j v hj; match j, hj with | 0, hj => exact hj | 1, hj => exact hj), rowCell Zt 7 HX7.out⟩ ?_
 try simp only [Act.put, zL]
 refine zU 1 (.pointer (some ⟨w.heap.size, 5, none⟩)) rfl ⟨rowMid Zt 5 (by intro j v hj; match j, hj with | 0, hj => exact hj | 1, hj => exact hj), rowCell Zt 7 HX7.out⟩ ?_
 try simp only [Act.put, zL]
 refine zT 2 (.agg ([.int .i64 x.i, .int .i64 x.j]).toArray) rfl (yieldsIf_load_mid (by rfl) 26 _ rfl (w.heap.size) (5) rfl ([.int .i64 x.i, .int .i64 x.j]) _ (fun _ h => h.1) Tryz.underlying26 rfl sizeId) ⟨rowMid Zt 5 (by intro j v hj; match j, hj with | 0, hj => exact hj | 1, hj => exact hj), rowCell Zt 7 HX7.out⟩ ?_
 try simp only [Act.put, zL]
 refine zU 4 (.pointer (some ⟨w.heap.size, 7, none⟩)) rfl ⟨rowMid Zt 5 (by intro j v hj; match j, hj with | 0, hj => exact hj | 1, hj => exact hj), rowCell Zt 7 HX7.out⟩ ?_
 try simp only [Act.put, zL]
 refine zT 5 (.int .i64 (gn : Int)) rfl (Or.inl ⟨by rfl, fun w_ hS_ => by (obtain ⟨h1_, h2_⟩ := hS_; go_simp)⟩) ⟨rowMid Zt 5 (by intro j v hj; match j, hj with | 0, hj => exact hj | 1, hj => exact hj), rowCell Zt 7 HX7.out⟩ ?_
 try simp only [Act.put, zL]
 refine zT 6 (.int .u64 (gn : Int)) rfl (Or.inl ⟨by rfl, fun w_ hS_ => by (go_simp; first | done | (rw [k1]))⟩) ⟨rowMid Zt 5 (by intro j v hj; match j, hj with | 0, hj => exact hj | 1, hj => exact hj), rowCell Zt 7 HX7.out⟩ ?_
 try simp only [Act.put, zL]
 refine zU 8 (.int .u64 0) rfl ⟨rowMid Zt 5 (by intro j v hj; match j, hj with | 0, hj => exact hj | 1, hj => exact hj), rowCell Zt 7 HX7.out⟩ ?_
 try simp only [Act.put, zL]
 refine wpAnyH_ready (rs := [3]) (by kernel_rfl) (by simp) ?_
 refine AllReadyH.cons rfl (fun K hK => ?_) AllReadyH.nil
 rw [if_pos (by rfl)]
 go_simp
 have sz_ := ee.size
 go_wp2_with (go_at_call 87; refine (putid_s g1 (by omega) (Nat.le_refl _) x.i x.j).mono ?_; rintro e z4 ⟨v2, rfl, g2, t, fr⟩)
 have fr := Fresh.mono fr sz_
 clear sz_
 have Zt := hpB Zt t
 have ee := ee.trans (t.mono ee.size)
 clear t
 refine hK.out _ _ ⟨rowMid Zt 5 (by intro j v hj; match j, hj with | 0, hj => exact hj | 1, hj => exact hj), rowCell Zt 7 HX7.out⟩ (fun hH => ?_)
 clear hK K hH
 try simp only [Act.put, zL]
 refine wpAnyH_ready (rs := [7]) (by kernel_rfl) (by simp) ?_
 refine AllReadyH.cons rfl (fun K hK => ?_) AllReadyH.nil
 rw [if_pos (by rfl)]
 go_simp
 have sz_ := ee.size
 go_wp2_with (go_at_call 32; refine (put_s g2 (by omega) (Nat.le_refl _) gn (by omega) 1).mono ?_; rintro e z5 ⟨v3, rfl, g3, t, fr⟩)
 have fr := Fresh.mono fr sz_
 clear sz_
 have Zt := hpB Zt t
 have ee := ee.trans (t.mono ee.size)
 clear t
 refine hK.out _ _ ⟨rowMid Zt 5 (by intro j v hj; match j, hj with | 0, hj => exact hj | 1, hj => exact hj), rowCell Zt 7 HX7.out⟩ (fun hH => ?_)
 clear hK K hH
 try simp only [Act.put, zL]
 refine wpAnyH_ready (rs := [9]) (by kernel_rfl) (by simp) ?_
 refine AllReadyH.cons rfl (fun K hK => ?_) AllReadyH.nil
 rw [if_pos (by rfl)]
 go_simp
 have sz_ := ee.size
 go_wp2_with (go_at_call 32; refine (put_s g3 (by omega) (Nat.le_refl _) 0 (by omega) 1).mono ?_; rintro e z6 ⟨v4, rfl, g4, t, fr⟩)
 have fr := Fresh.mono fr sz_
 clear sz_
 have Zt := hpB Zt t
 have ee := ee.trans (t.mono ee.size)
 clear t
 refine hK.out _ _ ⟨rowMid Zt 5 (by intro j v hj; match j, hj with | 0, hj => exact hj | 1, hj => exact hj), rowCell Zt 7 HX7.out⟩ (fun hH => ?_)
 clear hK K hH
 try simp only [Act.put, zL]
 refine zU 10 (v4) rfl ⟨rowMid Zt 5 (by intro j v hj; match j, hj with | 0, hj => exact hj | 1, hj => exact hj), rowCell Zt 7 HX7.out⟩ ?_
 try simp only [Act.put, zL]
 refine wpAnyH_done (by kernel_rfl) ?_ _
 go_wp2_with fail
 go_ret
 exact ⟨v4, rfl, g4, ee, fr⟩
set_option maxHeartbeats 3200000 in
theorem cput_3t {w : World} {B : Nat} {v : Value} {l : List UInt8} (h : SlB w B v l) (hl : l.length ≤ 2147483648) (hB : B ≤ w.heap.size) (x : Cm) (ok : CmOk w w.heap.size x) (hT : Tabs w) (hf : x.formed = true) (hk : x.k = 3) (gn : Nat) (hg : x.g = (gn : Int)) (hg4 : gn < 4) (hy : x.y = true) : Calls Tryz.prog 34 #[v, .agg x.cells.toArray] w (GotB w (C.put (C.put (idput (C.put l 3 1) x.i x.j) gn 1) 1 1)) := by
 have HX0 : Hid (x.cells[0]? = some (.int .i64 3)) := by show _ = _; rw [← hk]; rfl
 have HX9 : Hid (x.cells[9]? = some (.bool true)) := by show _ = _; rw [← hy]; rfl
 clear hy
 have HX7 : Hid (x.cells[7]? = some (.int .i64 (gn : Int))) := by show _ = _; rw [← hg]; rfl
 have HL2 := idput_len (C.put l 3 1) x.i x.j
 have HL3 := put_len2 (idput (C.put l 3 1) x.i x.j) gn 1
 have k1 : IntKind.u64.wrap (gn : Int) = (gn : Int) := wrapOf (by omega)
 clear hg
 have HT := Lib.hid hT
 have HF := Lib.hid (fun z (hz : Below w.heap.size w z) => cformed_any x.k x.s x.q x.rs x.ws x.A1 x.c1 x.A2 x.c2 x.i x.j x.g x.st x.y z w.heap.size hz.size (ok.below hz (Nat.le_refl _)) (hT.below hz))
 have HFE : Hid (x.formed = T.cformed x.k x.s x.q x.rs x.ws x.i x.j x.g x.st x.y) := rfl
 rw [← HFE.out, hf] at HF
 have HO := Lib.hid ok
 clear hT ok hf HFE
 have HL1 := put_len2 l 3 1
 obtain ⟨w0, hw0⟩ : ∃ w0, w0 = w.alloc (.cells x.cells.toArray 33) := ⟨_, rfl⟩
 have ee : Below w.heap.size w w0 := by rw [hw0]; exact (Below.refl _ _).alloc (Nat.le_refl _) _
 have Zt : w0.heap[w.heap.size]? = some (.cells x.cells.toArray 33) := by rw [hw0]; exact hpN _ _ rfl
 have H := Lib.hid h
 clear h
 go_enter Tryz.func34, Tryz.ntmps34
 go_upto_region 1 with fail
 rw [← hw0]
 clear hw0
 refine wp_region_lit ?_
 refine wpList_load_mid rfl 33 _ rfl (w.heap.size) 0 rfl x.cells _ (rowAt Zt) Tryz.underlying33 rfl sizeCm ?_
 go_wp2_with fail
 refine (HF.out w0 ee).mono ?_
 rintro e z1 ⟨rfl, t⟩
 have Zt := hpB Zt t
 have ee := ee.trans (t.mono ee.size)
 clear t
 clear HF
 have x0 := rowCell Zt 0 (v := .int .i64 3) (by rw [← hk]; rfl)
 clear hk
 go_wp2_with fail
 have sz_ := ee.size
 refine (put_s (H.out.belowM ee hB) (by omega) (Nat.le_trans hB ee.size) 3 (by omega) 1).mono ?_
 rintro e z2 ⟨v1, rfl, g1, t, fr⟩
 have fr := Fresh.mono fr sz_
 clear sz_
 have Zt := hpB Zt t
 have ee := ee.trans (t.mono ee.size)
 clear t
 have x0 := rowCell Zt 0 (v := .int .i64 3) HX0.out
 have x9 := rowCell Zt 9 (v := .bool true) HX9.out
 go_upto_region 13 with fail
 clear x0 x9
 have g1 : SlB z2.drew z2.drew.heap.size v1 (C.put l 3 1) := g1.drew
 have Zt : z2.drew.heap[w.heap.size]? = some (.cells x.cells.toArray 33) := Zt
 have ee := belowDrewS ee
 refine wp_region_held_drew (S := fun z' => z'.rangeAt w.heap.size 5 [.int .i64 x.i, .int .i64 x.j] ∧ z'.cell? ⟨w.heap.size, 7, none⟩ = some (.int .i64 (gn : Int))) (by kernel_rfl) ⟨rowMid Zt 5 (by intro j v hj; match j, hj with | 0, hj => exact hj | 1, hj => exact hj), rowCell Zt 7 HX7.out⟩ (fun hH => ?_)
 clear hH
 generalize z2.drew = z3 at Zt g1 ee ⊢
 refine zU 0 (v1) rfl ⟨rowMid Zt 5 (by intro j v hj; match j, hj with | 0, hj => exact hj | 1, hj => exact hj), rowCell Zt 7 HX7.out⟩ ?_
 try simp only [Act.put, zL]
 refine zU 1 (.pointer (some ⟨w.heap.size, 5, none⟩)) rfl ⟨rowMid Zt 5 (by intro j v hj; match j, hj with | 0, hj => exact hj | 1, hj => exact hj), rowCell Zt 7 HX7.out⟩ ?_
 try simp only [Act.put, zL]
 refine zT 2 (.agg ([.int .i64 x.i, .int .i64 x.j]).toArray) rfl (yieldsIf_load_mid (by rfl) 26 _ rfl (w.heap.size) (5) rfl ([.int .i64 x.i, .int .i64 x.j]) _ (fun _ h => h.1) Tryz.underlying26 rfl sizeId) ⟨rowMid Zt 5 (by intro j v hj; match j, hj with | 0, hj => exact hj | 1, hj => exact hj), rowCell Zt 7 HX7.out⟩ ?_
 try simp only [Act.put, zL]
 refine zU 4 (.pointer (some ⟨w.heap.size, 7, none⟩)) rfl ⟨rowMid Zt 5 (by intro j v hj; match j, hj with | 0, hj => exact hj | 1, hj => exact hj), rowCell Zt 7 HX7.out⟩ ?_
 try simp only [Act.put, zL]
 refine zT 5 (.int .i64 (gn : Int)) rfl (Or.inl ⟨by rfl, fun w_ hS_ => by (obtain ⟨h1_, h2_⟩ := hS_; go_simp)⟩) ⟨rowMid Zt 5 (by intro j v hj; match j, hj with | 0, hj => exact hj | 1, hj => exact hj), rowCell Zt 7 HX7.out⟩ ?_
 try simp only [Act.put, zL]
 refine zT 6 (.int .u64 (gn : Int)) rfl (Or.inl ⟨by rfl, fun w_ hS_ => by (go_simp; first | done | (rw [k1]))⟩) ⟨rowMid Zt 5 (by intro j v hj; match j, hj with | 0, hj => exact hj | 1, hj => exact hj), rowCell Zt 7 HX7.out⟩ ?_
 try simp only [Act.put, zL]
 refine zU 8 (.int .u64 1) rfl ⟨rowMid Zt 5 (by intro j v hj; match j, hj with | 0, hj => exact hj | 1, hj => exact hj), rowCell Zt 7 HX7.out⟩ ?_
 try simp only [Act.put, zL]
 refine wpAnyH_ready (rs := [3]) (by kernel_rfl) (by simp) ?_
 refine AllReadyH.cons rfl (fun K hK => ?_) AllReadyH.nil
 rw [if_pos (by rfl)]
 go_simp
 have sz_ := ee.size
 go_wp2_with (go_at_call 87; refine (putid_s g1 (by omega) (Nat.le_refl _) x.i x.j).mono ?_; rintro e z4 ⟨v2, rfl, g2, t, fr⟩)
 have fr := Fresh.mono fr sz_
 clear sz_
 have Zt := hpB Zt t
 have ee := ee.trans (t.mono ee.size)
 clear t
 refine hK.out _ _ ⟨rowMid Zt 5 (by intro j v hj; match j, hj with | 0, hj => exact hj | 1, hj => exact hj), rowCell Zt 7 HX7.out⟩ (fun hH => ?_)
 clear hK K hH
 try simp only [Act.put, zL]
 refine wpAnyH_ready (rs := [7]) (by kernel_rfl) (by simp) ?_
 refine AllReadyH.cons rfl (fun K hK => ?_) AllReadyH.nil
 rw [if_pos (by rfl)]
 go_simp
 have sz_ := ee.size
 go_wp2_with (go_at_call 32; refine (put_s g2 (by omega) (Nat.le_refl _) gn (by omega) 1).mono ?_; rintro e z5 ⟨v3, rfl, g3, t, fr⟩)
 have fr := Fresh.mono fr sz_
 clear sz_
 have Zt := hpB Zt t
 have ee := ee.trans (t.mono ee.size)
 clear t
 refine hK.out _ _ ⟨rowMid Zt 5 (by intro j v hj; match j, hj with | 0, hj => exact hj | 1, hj => exact hj), rowCell Zt 7 HX7.out⟩ (fun hH => ?_)
 clear hK K hH
 try simp only [Act.put, zL]
 refine wpAnyH_ready (rs := [9]) (by kernel_rfl) (by simp) ?_
 refine AllReadyH.cons rfl (fun K hK => ?_) AllReadyH.nil
 rw [if_pos (by rfl)]
 go_simp
 have sz_ := ee.size
 go_wp2_with (go_at_call 32; refine (put_s g3 (by omega) (Nat.le_refl _) 1 (by omega) 1).mono ?_; rintro e z6 ⟨v4, rfl, g4, t, fr⟩)
 have fr := Fresh.mono fr sz_
 clear sz_
 have Zt := hpB Zt t
 have ee := ee.trans (t.mono ee.size)
 clear t
 refine hK.out _ _ ⟨rowMid Zt 5 (by intro j v hj; match j, hj with | 0, hj => exact hj | 1, hj => exact hj), rowCell Zt 7 HX7.out⟩ (fun hH => ?_)
 clear hK K hH
 try simp only [Act.put, zL]
 refine zU 10 (v4) rfl ⟨rowMid Zt 5 (by intro j v hj; match j, hj with | 0, hj => exact hj | 1, hj => exact hj), rowCell Zt 7 HX7.out⟩ ?_
 try simp only [Act.put, zL]
 refine wpAnyH_done (by kernel_rfl) ?_ _
 go_wp2_with fail
 go_ret
 exact ⟨v4, rfl, g4, ee, fr⟩
theorem cput_s {w : World} {B : Nat} {v : Value} {l : List UInt8} (h : SlB w B v l) (hl : l.length ≤ 2147483648) (hB : B ≤ w.heap.size) (x : Cm) (ok : CmOk w w.heap.size x) (hT : Tabs w) : Calls Tryz.prog 34 #[v, .agg x.cells.toArray] w (GotB w (cput l x)) := by
 unfold cput
 cases hf : x.formed with
 | false => exact cput_no h hl hB x ok hT hf
 | true =>
   rw [cond_true]
   rcases cformed_k hf with hk | hk | hk | hk
   ·rw [if_neg (by omega), if_neg (by omega), if_neg (by omega)]; exact cput_0 h hl hB x ok hT hf hk
   ·rw [if_pos hk]; exact cput_1 h hl hB x ok hT hf hk
   ·rw [if_neg (by omega), if_pos hk]
    obtain ⟨_, _, h3, h4, h5, h6⟩ := cformed_2 hf hk
    exact cput_2 h hl hB x ok hT hf hk x.g.toNat (by omega) (by omega) h6
   ·rw [if_neg (by omega), if_neg (by omega), if_pos hk]
    obtain ⟨_, _, h3, h4⟩ := cformed_3 hf hk
    cases hy : x.y with
    | false => exact cput_3f h hl hB x ok hT hf hk x.g.toNat (by omega) (by omega) hy
    | true => exact cput_3t h hl hB x ok hT hf hk x.g.toNat (by omega) (by omega) hy
end Go.Proofs.YtjofjpmhokjhnaaGreatDoor
namespace Go.Proofs.YtjofjpmhokjhnaaGreatDoor
set_option maxRecDepth 20001
open Go.RowKit T
namespace T
def Ms.wput (m : Ms) (l : List UInt8) (c : Nat) : List UInt8 := if c = 66 then B.put l m.br m.bn else if c = 83 then C.put l (T.nz m.sl) 4 else if c = 72 then if m.ha = true then cput (B.put (C.put l (T.bit m.ha) 1) m.vr m.vn) m.c else C.put l (T.bit m.ha) 1 else if c = 67 then cput l m.c else if c = 84 then tput l m.t.s m.t.q m.t.rs m.t.ws else if c = 73 then idput l m.ii m.ij else if c = 71 then C.put l (T.nz m.g) 1 else if c = 80 then C.put l m.st 8 else if c = 89 then C.put l (T.bit m.ye) 1 else if c = 78 then C.put l (T.nz m.nu) 4 else if c = 75 then C.putText l m.ky.data.toList else if c = 86 then C.put l m.ve 8 else if c = 88 then V.put l m.vk m.vb m.vt.data.toList else if c = 69 then C.put l (T.nz m.er) 1 else if c = 68 then C.put l m.dt.length 4 ++ m.dt else l
def Ms.wl (m : Ms) (k : Nat) : List UInt8 := ((fieldsOf m.kd).take k).foldl (fun l c => m.wput l c.toNat) (C.put [] (T.nz m.kd) 1)
def Ms.wr (m : Ms) : List UInt8 := (fieldsOf m.kd).foldl (fun l c => m.wput l c.toNat) (C.put [] (T.nz m.kd) 1)
end T
theorem cput_len (l : List UInt8) (x : Cm) : (cput l x).length ≤ l.length + 1600100 := by
 unfold cput
 cases x.formed with
 | false => simp only [cond_false]; omega
 | true =>
   simp only [cond_true]
   have h1 := tput_len (C.put l 1 1) x.s x.q x.rs x.ws
   have h2 := put_len2 l 1 1
   have h3 := put_len2 (C.put (idput (C.put l 2 1) x.i x.j) x.g.toNat 1) x.st 8
   have h4 := put_len2 (idput (C.put l 2 1) x.i x.j) x.g.toNat 1
   have h5 := idput_len (C.put l 2 1) x.i x.j
   have h6 := put_len2 l 2 1
   have h7 := put_len2 (C.put (idput (C.put l 3 1) x.i x.j) x.g.toNat 1) (if x.y = true then 1 else 0) 1
   have h8 := put_len2 (idput (C.put l 3 1) x.i x.j) x.g.toNat 1
   have h9 := idput_len (C.put l 3 1) x.i x.j
   have h10 := put_len2 l 3 1
   have h11 := put_len2 l 0 1
   split <;> (try split) <;> (try split) <;> omega
theorem wput_B (m : Ms) (l : List UInt8) : m.wput l 66 = (B.put l m.br m.bn) := rfl
theorem wput_S (m : Ms) (l : List UInt8) : m.wput l 83 = (C.put l (T.nz m.sl) 4) := rfl
theorem wput_H (m : Ms) (l : List UInt8) : m.wput l 72 = (if m.ha = true then cput (B.put (C.put l (T.bit m.ha) 1) m.vr m.vn) m.c else C.put l (T.bit m.ha) 1) := rfl
theorem wput_C (m : Ms) (l : List UInt8) : m.wput l 67 = (cput l m.c) := rfl
theorem wput_T (m : Ms) (l : List UInt8) : m.wput l 84 = (tput l m.t.s m.t.q m.t.rs m.t.ws) := rfl
theorem wput_I (m : Ms) (l : List UInt8) : m.wput l 73 = (idput l m.ii m.ij) := rfl
theorem wput_G (m : Ms) (l : List UInt8) : m.wput l 71 = (C.put l (T.nz m.g) 1) := rfl
theorem wput_P (m : Ms) (l : List UInt8) : m.wput l 80 = (C.put l m.st 8) := rfl
theorem wput_Y (m : Ms) (l : List UInt8) : m.wput l 89 = (C.put l (T.bit m.ye) 1) := rfl
theorem wput_N (m : Ms) (l : List UInt8) : m.wput l 78 = (C.put l (T.nz m.nu) 4) := rfl
theorem wput_K (m : Ms) (l : List UInt8) : m.wput l 75 = (C.putText l m.ky.data.toList) := rfl
theorem wput_V (m : Ms) (l : List UInt8) : m.wput l 86 = (C.put l m.ve 8) := rfl
theorem wput_X (m : Ms) (l : List UInt8) : m.wput l 88 = (V.put l m.vk m.vb m.vt.data.toList) := rfl
theorem wput_E (m : Ms) (l : List UInt8) : m.wput l 69 = (C.put l (T.nz m.er) 1) := rfl
theorem wput_D (m : Ms) (l : List UInt8) : m.wput l 68 = (C.put l m.dt.length 4 ++ m.dt) := rfl
theorem wput_none (m : Ms) (l : List UInt8) (c : Nat) (hB : c ≠ 66) (hS : c ≠ 83) (hH : c ≠ 72) (hC : c ≠ 67) (hT : c ≠ 84) (hI : c ≠ 73) (hG : c ≠ 71) (hP : c ≠ 80) (hY : c ≠ 89) (hN : c ≠ 78) (hK : c ≠ 75) (hV : c ≠ 86) (hX : c ≠ 88) (hE : c ≠ 69) (hD : c ≠ 68) : m.wput l c = l := by
 unfold T.Ms.wput
 rw [if_neg hB, if_neg hS, if_neg hH, if_neg hC, if_neg hT, if_neg hI, if_neg hG, if_neg hP, if_neg hY, if_neg hN, if_neg hK, if_neg hV, if_neg hX, if_neg hE, if_neg hD]
theorem wput_len (m : Ms) (h : m.dt.length ≤ 100000000) (l : List UInt8) (c : Nat) : (m.wput l c).length ≤ l.length + 200000000 := by
 by_cases hB : c = 66
 ·subst hB; rw [wput_B]; have h_ := B.put_len l m.br m.bn; omega
 by_cases hS : c = 83
 ·subst hS; rw [wput_S]; have h_ := put_len2 l (T.nz m.sl) 4; omega
 by_cases hH : c = 72
 ·subst hH; rw [wput_H]; have h_ := put_len2 l (T.bit m.ha) 1; have h2_ := B.put_len (C.put l (T.bit m.ha) 1) m.vr m.vn; have h3_ := cput_len (B.put (C.put l (T.bit m.ha) 1) m.vr m.vn) m.c; split <;> omega
 by_cases hC : c = 67
 ·subst hC; rw [wput_C]; have h_ := cput_len l m.c; omega
 by_cases hT : c = 84
 ·subst hT; rw [wput_T]; have h_ := tput_len l m.t.s m.t.q m.t.rs m.t.ws; omega
 by_cases hI : c = 73
 ·subst hI; rw [wput_I]; have h_ := idput_len l m.ii m.ij; omega
 by_cases hG : c = 71
 ·subst hG; rw [wput_G]; have h_ := put_len2 l (T.nz m.g) 1; omega
 by_cases hP : c = 80
 ·subst hP; rw [wput_P]; have h_ := put_len2 l m.st 8; omega
 by_cases hY : c = 89
 ·subst hY; rw [wput_Y]; have h_ := put_len2 l (T.bit m.ye) 1; omega
 by_cases hN : c = 78
 ·subst hN; rw [wput_N]; have h_ := put_len2 l (T.nz m.nu) 4; omega
 by_cases hK : c = 75
 ·subst hK; rw [wput_K]; have h_ := puttext_len l m.ky.data.toList; omega
 by_cases hV : c = 86
 ·subst hV; rw [wput_V]; have h_ := put_len2 l m.ve 8; omega
 by_cases hX : c = 88
 ·subst hX; rw [wput_X]; have h_ := V.put_len l m.vk m.vb m.vt.data.toList; omega
 by_cases hE : c = 69
 ·subst hE; rw [wput_E]; have h_ := put_len2 l (T.nz m.er) 1; omega
 by_cases hD : c = 68
 ·subst hD; rw [wput_D]; have h_ := put_len2 l m.dt.length 4; rw [List.length_append]; omega
 rw [wput_none m l c hB hS hH hC hT hI hG hP hY hN hK hV hX hE hD]; omega
def GotO (w : World) (l : List UInt8) (e : Ending) (w' : World) : Prop := ∃ v, e = .returned v ∧ OwnB w' w.heap.size v l ∧ Below w.heap.size w w'
theorem put_o {w : World} {B : Nat} {v : Value} {l : List UInt8} (h : SlB w B v l) (hl : l.length ≤ 549755813888) (hB : B ≤ w.heap.size) (x : Nat) (hx : x < 18446744073709551616) (n : Int) : Calls Tryz.prog 32 #[v, .int .u64 (x : Int), .int .i64 n] w (GotO w (C.put l x n)) := by
 obtain ⟨A, c, rfl, hc, hm, hA, hr⟩ := h
 exact put_any A c l x n w B hl hA hr hB hx
def Wrote (f : Bool) (l : List UInt8) (e : Ending) (w' : World) : Prop :=
 ∃ v m x, e = .returned (.tuple #[v, .int .i64 x]) ∧ SlB w' w'.heap.size v m ∧ x = (bif f then 0 else 2) ∧ m = (bif f then l else [])
end Go.Proofs.YtjofjpmhokjhnaaGreatDoor
