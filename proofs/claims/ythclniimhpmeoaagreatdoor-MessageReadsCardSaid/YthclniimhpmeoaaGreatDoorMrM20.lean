import Derived.Test.YthclniimhpmeoaaGreatDoorMrM19
import Derived.Test.YthclniimhpmeoaaGreatDoorMrM15
set_option maxHeartbeats 3200000
set_option linter.unusedSimpArgs false
set_option linter.unusedVariables false
namespace Go.Proofs.YthclniimhpmeoaaGreatDoor
set_option maxRecDepth 20000
open Go.RowKit T
theorem cput_no {w : World} {B : Nat} {v : Value} {l : List UInt8} (h : SlB w B v l) (hl : l.length ≤ 2147483648) (hB : B ≤ w.heap.size) (x : Cm) (ok : CmOk w w.heap.size x) (hT : Tabs w) (hf : x.formed = false) : Calls Tryz.prog 34 #[v, .agg x.cells.toArray] w (GotB w l) := by
 have HT := Lib.hid hT;have HF := Lib.hid (fun z (hz : Below w.heap.size w z) => cformed_any x.k x.s x.q x.rs x.ws x.A1 x.c1 x.A2 x.c2 x.i x.j x.g x.st x.y z w.heap.size hz.size (ok.below hz (Nat.le_refl _)) (hT.below hz));have HFE : Hid (x.formed = T.cformed x.k x.s x.q x.rs x.ws x.i x.j x.g x.st x.y) := rfl;rw [← HFE.out, hf] at HF;have HO := Lib.hid ok;clear hT ok hf HFE;obtain ⟨w0, hw0⟩ : ∃ w0, w0 = w.alloc (.cells x.cells.toArray 33) := ⟨_, rfl⟩;(have ee : Below w.heap.size w w0 := by rw [hw0]; exact (Below.refl _ _).alloc (Nat.le_refl _) _);(have Zt : w0.heap[w.heap.size]? = some (.cells x.cells.toArray 33) := by rw [hw0]; exact hpN _ _ rfl);have H := Lib.hid h;clear h
 go_enter Tryz.func34, Tryz.ntmps34
 go_upto_region 1 with fail
 rw [← hw0];clear hw0;refine wp_region_lit (wpList_load_mid rfl 33 _ rfl (w.heap.size) 0 rfl x.cells _ (rowAt Zt) Tryz.underlying33 rfl sizeCm ?_)
 go_wp2_with fail
 refine (HF.out w0 ee).mono ?_;rintro e z1 ⟨rfl, t⟩;have Zt := hpB Zt t;have ee := bU ee t;clear t;clear HF
 go_wp2_with fail
 have sz_ := ee.size;refine (clone_s (H.out.belowM ee hB) (by omega) (Nat.le_trans hB ee.size)).mono ?_;rintro e z2 ⟨v2, rfl, h2, t, fr⟩;have fr := Fresh.mono fr sz_;clear sz_;have Zt := hpB Zt t;have ee := bU ee t;clear t
 go_wp2_with fail
 go_ret
 exact ⟨v2, rfl, h2, ee, fr⟩
theorem cput_0 {w : World} {B : Nat} {v : Value} {l : List UInt8} (h : SlB w B v l) (hl : l.length ≤ 2147483648) (hB : B ≤ w.heap.size) (x : Cm) (ok : CmOk w w.heap.size x) (hT : Tabs w) (hf : x.formed = true) (hk : x.k = 0) : Calls Tryz.prog 34 #[v, .agg x.cells.toArray] w (GotB w (C.put l 0 1)) := by
 (have HX0 : Hid (x.cells[0]? = some (.int .i64 0)) := by show _ = _; rw [← hk]; rfl);have HT := Lib.hid hT;have HF := Lib.hid (fun z (hz : Below w.heap.size w z) => cformed_any x.k x.s x.q x.rs x.ws x.A1 x.c1 x.A2 x.c2 x.i x.j x.g x.st x.y z w.heap.size hz.size (ok.below hz (Nat.le_refl _)) (hT.below hz));have HFE : Hid (x.formed = T.cformed x.k x.s x.q x.rs x.ws x.i x.j x.g x.st x.y) := rfl;rw [← HFE.out, hf] at HF;have HO := Lib.hid ok;clear hT ok hf HFE;have HL1 := put_len2 l 0 1;obtain ⟨w0, hw0⟩ : ∃ w0, w0 = w.alloc (.cells x.cells.toArray 33) := ⟨_, rfl⟩;(have ee : Below w.heap.size w w0 := by rw [hw0]; exact (Below.refl _ _).alloc (Nat.le_refl _) _);(have Zt : w0.heap[w.heap.size]? = some (.cells x.cells.toArray 33) := by rw [hw0]; exact hpN _ _ rfl);have H := Lib.hid h;clear h
 go_enter Tryz.func34, Tryz.ntmps34
 go_upto_region 1 with fail
 rw [← hw0];clear hw0;refine wp_region_lit (wpList_load_mid rfl 33 _ rfl (w.heap.size) 0 rfl x.cells _ (rowAt Zt) Tryz.underlying33 rfl sizeCm ?_)
 go_wp2_with fail
 refine (HF.out w0 ee).mono ?_;rintro e z1 ⟨rfl, t⟩;have Zt := hpB Zt t;have ee := bU ee t;clear t;clear HF;have x0 := rowCell Zt 0 (v := .int .i64 0) (by rw [← hk]; rfl);clear hk
 go_wp2_with fail
 have sz_ := ee.size;refine (put_s (H.out.belowM ee hB) (by omega) (Nat.le_trans hB ee.size) 0 (by omega) 1).mono ?_;rintro e z2 ⟨v1, rfl, g1, t, fr⟩;have fr := Fresh.mono fr sz_;clear sz_;have Zt := hpB Zt t;have ee := bU ee t;clear t;have x0 := rowCell Zt 0 (v := .int .i64 0) HX0.out
 go_wp2_with fail
 go_ret
 exact ⟨v1, rfl, g1, ee, fr⟩
theorem cput_1 {w : World} {B : Nat} {v : Value} {l : List UInt8} (h : SlB w B v l) (hl : l.length ≤ 2147483648) (hB : B ≤ w.heap.size) (x : Cm) (ok : CmOk w w.heap.size x) (hT : Tabs w) (hf : x.formed = true) (hk : x.k = 1) : Calls Tryz.prog 34 #[v, .agg x.cells.toArray] w (GotB w (tput (C.put l 1 1) x.s x.q x.rs x.ws)) := by
 (have HX0 : Hid (x.cells[0]? = some (.int .i64 1)) := by show _ = _; rw [← hk]; rfl);have HT := Lib.hid hT;have HF := Lib.hid (fun z (hz : Below w.heap.size w z) => cformed_any x.k x.s x.q x.rs x.ws x.A1 x.c1 x.A2 x.c2 x.i x.j x.g x.st x.y z w.heap.size hz.size (ok.below hz (Nat.le_refl _)) (hT.below hz));have HFE : Hid (x.formed = T.cformed x.k x.s x.q x.rs x.ws x.i x.j x.g x.st x.y) := rfl;rw [← HFE.out, hf] at HF;have HO := Lib.hid ok;clear hT ok hf HFE;have HL1 := put_len2 l 1 1;obtain ⟨w0, hw0⟩ : ∃ w0, w0 = w.alloc (.cells x.cells.toArray 33) := ⟨_, rfl⟩;(have ee : Below w.heap.size w w0 := by rw [hw0]; exact (Below.refl _ _).alloc (Nat.le_refl _) _);(have Zt : w0.heap[w.heap.size]? = some (.cells x.cells.toArray 33) := by rw [hw0]; exact hpN _ _ rfl);have H := Lib.hid h;clear h
 go_enter Tryz.func34, Tryz.ntmps34
 go_upto_region 1 with fail
 rw [← hw0];clear hw0;refine wp_region_lit (wpList_load_mid rfl 33 _ rfl (w.heap.size) 0 rfl x.cells _ (rowAt Zt) Tryz.underlying33 rfl sizeCm ?_)
 go_wp2_with fail
 refine (HF.out w0 ee).mono ?_;rintro e z1 ⟨rfl, t⟩;have Zt := hpB Zt t;have ee := bU ee t;clear t;clear HF;have x0 := rowCell Zt 0 (v := .int .i64 1) (by rw [← hk]; rfl);clear hk
 go_wp2_with fail
 have sz_ := ee.size;refine (put_s (H.out.belowM ee hB) (by omega) (Nat.le_trans hB ee.size) 1 (by omega) 1).mono ?_;rintro e z2 ⟨v1, rfl, g1, t, fr⟩;have fr := Fresh.mono fr sz_;clear sz_;have Zt := hpB Zt t;have ee := bU ee t;clear t;have x0 := rowCell Zt 0 (v := .int .i64 1) HX0.out
 go_upto_region 6 with fail
 refine wp_region_lit ?_
 iterate 27 (first | with_reducible refine isLoad (ty := 30) rfl ?_ | go_step)
 refine wpList_load_mid rfl 30 _ rfl (w.heap.size) 1 rfl ([.int .i64 x.s, .int .i64 x.q, .slice x.A1 x.rs.length x.c1, .slice x.A2 x.ws.length x.c2]) _ (rowMid Zt 1 (by intro j v hj; match j, hj with | 0, hj => exact hj | 1, hj => exact hj | 2, hj => exact hj | 3, hj => exact hj)) Tryz.underlying30 rfl sizeTx ?_
 clear x0
 go_wp2_with fail
 have sz_ := ee.size;refine (tput_s g1 (by omega) (Nat.le_refl _) x.s x.q x.rs x.ws x.A1 x.c1 x.A2 x.c2 (TxOk.more (TxOk.below HO.out ee (Nat.le_refl _)) ee.size) (HT.out.below ee)).mono ?_;rintro e z3 ⟨v2, rfl, g2, t, fr⟩;have fr := Fresh.mono fr sz_;clear sz_;have Zt := hpB Zt t;have ee := bU ee t;clear t
 go_wp2_with fail
 go_ret
 exact ⟨v2, rfl, g2, ee, fr⟩
theorem cput_2 {w : World} {B : Nat} {v : Value} {l : List UInt8} (h : SlB w B v l) (hl : l.length ≤ 2147483648) (hB : B ≤ w.heap.size) (x : Cm) (ok : CmOk w w.heap.size x) (hT : Tabs w) (hf : x.formed = true) (hk : x.k = 2) (gn : Nat) (hg : x.g = (gn : Int)) (hg4 : gn < 4) (hst : x.st < 9223372036854775808) : Calls Tryz.prog 34 #[v, .agg x.cells.toArray] w (GotB w (C.put (C.put (idput (C.put l 2 1) x.i x.j) gn 1) x.st 8)) := by
 (have HX0 : Hid (x.cells[0]? = some (.int .i64 2)) := by show _ = _; rw [← hk]; rfl);(have HX7 : Hid (x.cells[7]? = some (.int .i64 (gn : Int))) := by show _ = _; rw [← hg]; rfl);have HL2 := idput_len (C.put l 2 1) x.i x.j;have HL3 := put_len2 (idput (C.put l 2 1) x.i x.j) gn 1;have k1 : IntKind.u64.wrap (gn : Int) = (gn : Int) := wrapOf (by omega);clear hg;have HT := Lib.hid hT;have HF := Lib.hid (fun z (hz : Below w.heap.size w z) => cformed_any x.k x.s x.q x.rs x.ws x.A1 x.c1 x.A2 x.c2 x.i x.j x.g x.st x.y z w.heap.size hz.size (ok.below hz (Nat.le_refl _)) (hT.below hz));have HFE : Hid (x.formed = T.cformed x.k x.s x.q x.rs x.ws x.i x.j x.g x.st x.y) := rfl;rw [← HFE.out, hf] at HF;have HO := Lib.hid ok;clear hT ok hf HFE;have HL1 := put_len2 l 2 1;obtain ⟨w0, hw0⟩ : ∃ w0, w0 = w.alloc (.cells x.cells.toArray 33) := ⟨_, rfl⟩;(have ee : Below w.heap.size w w0 := by rw [hw0]; exact (Below.refl _ _).alloc (Nat.le_refl _) _);(have Zt : w0.heap[w.heap.size]? = some (.cells x.cells.toArray 33) := by rw [hw0]; exact hpN _ _ rfl);have H := Lib.hid h;clear h
 go_enter Tryz.func34, Tryz.ntmps34
 go_upto_region 1 with fail
 rw [← hw0];clear hw0;refine wp_region_lit (wpList_load_mid rfl 33 _ rfl (w.heap.size) 0 rfl x.cells _ (rowAt Zt) Tryz.underlying33 rfl sizeCm ?_)
 go_wp2_with fail
 refine (HF.out w0 ee).mono ?_;rintro e z1 ⟨rfl, t⟩;have Zt := hpB Zt t;have ee := bU ee t;clear t;clear HF;have x0 := rowCell Zt 0 (v := .int .i64 2) (by rw [← hk]; rfl);clear hk
 go_wp2_with fail
 have sz_ := ee.size;refine (put_s (H.out.belowM ee hB) (by omega) (Nat.le_trans hB ee.size) 2 (by omega) 1).mono ?_;rintro e z2 ⟨v1, rfl, g1, t, fr⟩;have fr := Fresh.mono fr sz_;clear sz_;have Zt := hpB Zt t;have ee := bU ee t;clear t;have x0 := rowCell Zt 0 (v := .int .i64 2) HX0.out
 go_upto_region 8 with fail
 clear x0;have g1 : SlB z2.drew z2.drew.heap.size v1 (C.put l 2 1) := g1.drew;have Zt : z2.drew.heap[w.heap.size]? = some (.cells x.cells.toArray 33) := Zt;have ee := belowDrewS ee
 refine wp_region_held_drew (S := fun z' => z'.rangeAt w.heap.size 5 [.int .i64 x.i, .int .i64 x.j] ∧ z'.cell? ⟨w.heap.size, 7, none⟩ = some (.int .i64 (gn : Int)) ∧ z'.cell? ⟨w.heap.size, 8, none⟩ = some (.int .u64 (x.st : Int))) (by kernel_rfl) ⟨rowMid Zt 5 (by intro j v hj; match j, hj with | 0, hj => exact hj | 1, hj => exact hj), rowCell Zt 7 HX7.out, rowCell Zt 8 rfl⟩ (fun hH => ?_)
 clear hH;generalize z2.drew = z3 at Zt g1 ee ⊢
 refine zU 0 (v1) rfl ⟨rowMid Zt 5 (by intro j v hj; match j, hj with | 0, hj => exact hj | 1, hj => exact hj), rowCell Zt 7 HX7.out, rowCell Zt 8 rfl⟩ ?_
 try simp only [Act.put, zL]
 refine zU 1 (.pointer (some ⟨w.heap.size, 5, none⟩)) rfl ⟨rowMid Zt 5 (by intro j v hj; match j, hj with | 0, hj => exact hj | 1, hj => exact hj), rowCell Zt 7 HX7.out, rowCell Zt 8 rfl⟩ ?_
 try simp only [Act.put, zL]
 refine zT 2 (.agg ([.int .i64 x.i, .int .i64 x.j]).toArray) rfl (yieldsIf_load_mid (by rfl) 26 _ rfl (w.heap.size) (5) rfl ([.int .i64 x.i, .int .i64 x.j]) _ (fun _ h => h.1) Tryz.underlying26 rfl sizeId) ⟨rowMid Zt 5 (by intro j v hj; match j, hj with | 0, hj => exact hj | 1, hj => exact hj), rowCell Zt 7 HX7.out, rowCell Zt 8 rfl⟩ ?_
 try simp only [Act.put, zL]
 refine zU 4 (.pointer (some ⟨w.heap.size, 7, none⟩)) rfl ⟨rowMid Zt 5 (by intro j v hj; match j, hj with | 0, hj => exact hj | 1, hj => exact hj), rowCell Zt 7 HX7.out, rowCell Zt 8 rfl⟩ ?_
 try simp only [Act.put, zL]
 refine zT 5 (.int .i64 (gn : Int)) rfl (Or.inl ⟨by rfl, fun w_ hS_ => by (obtain ⟨h1_, h2_, h3_⟩ := hS_; go_simp)⟩) ⟨rowMid Zt 5 (by intro j v hj; match j, hj with | 0, hj => exact hj | 1, hj => exact hj), rowCell Zt 7 HX7.out, rowCell Zt 8 rfl⟩ ?_
 try simp only [Act.put, zL]
 refine zT 6 (.int .u64 (gn : Int)) rfl (Or.inl ⟨by rfl, fun w_ hS_ => by (go_simp; first | done | (rw [k1]))⟩) ⟨rowMid Zt 5 (by intro j v hj; match j, hj with | 0, hj => exact hj | 1, hj => exact hj), rowCell Zt 7 HX7.out, rowCell Zt 8 rfl⟩ ?_
 try simp only [Act.put, zL]
 refine zU 8 (.pointer (some ⟨w.heap.size, 8, none⟩)) rfl ⟨rowMid Zt 5 (by intro j v hj; match j, hj with | 0, hj => exact hj | 1, hj => exact hj), rowCell Zt 7 HX7.out, rowCell Zt 8 rfl⟩ ?_
 try simp only [Act.put, zL]
 refine zT 9 (.int .u64 (x.st : Int)) rfl (Or.inl ⟨by rfl, fun w_ hS_ => by (obtain ⟨h1_, h2_, h3_⟩ := hS_; go_simp)⟩) ⟨rowMid Zt 5 (by intro j v hj; match j, hj with | 0, hj => exact hj | 1, hj => exact hj), rowCell Zt 7 HX7.out, rowCell Zt 8 rfl⟩ ?_
 (try simp only [Act.put, zL]);refine wrd 3 fun K hK => ?_;rw [if_pos (by rfl)]
 go_simp
 have sz_ := ee.size
 go_wp2_with (go_at_call 87; refine (putid_s g1 (by omega) (Nat.le_refl _) x.i x.j).mono ?_; rintro e z4 ⟨v2, rfl, g2, t, fr⟩)
 have fr := Fresh.mono fr sz_;clear sz_;have Zt := hpB Zt t;have ee := bU ee t;clear t
 refine hK.out _ _ ⟨rowMid Zt 5 (by intro j v hj; match j, hj with | 0, hj => exact hj | 1, hj => exact hj), rowCell Zt 7 HX7.out, rowCell Zt 8 rfl⟩ (fun hH => ?_)
 clear hK K hH;(try simp only [Act.put, zL]);refine wrd 7 fun K hK => ?_;rw [if_pos (by rfl)]
 go_simp
 have sz_ := ee.size
 go_wp2_with (go_at_call 32; refine (put_s g2 (by omega) (Nat.le_refl _) gn (by omega) 1).mono ?_; rintro e z5 ⟨v3, rfl, g3, t, fr⟩)
 have fr := Fresh.mono fr sz_;clear sz_;have Zt := hpB Zt t;have ee := bU ee t;clear t
 refine hK.out _ _ ⟨rowMid Zt 5 (by intro j v hj; match j, hj with | 0, hj => exact hj | 1, hj => exact hj), rowCell Zt 7 HX7.out, rowCell Zt 8 rfl⟩ (fun hH => ?_)
 clear hK K hH;(try simp only [Act.put, zL]);refine wrd 10 fun K hK => ?_;rw [if_pos (by rfl)]
 go_simp
 have sz_ := ee.size
 go_wp2_with (go_at_call 32; refine (put_s g3 (by omega) (Nat.le_refl _) x.st (by omega) 8).mono ?_; rintro e z6 ⟨v4, rfl, g4, t, fr⟩)
 have fr := Fresh.mono fr sz_;clear sz_;have Zt := hpB Zt t;have ee := bU ee t;clear t
 refine hK.out _ _ ⟨rowMid Zt 5 (by intro j v hj; match j, hj with | 0, hj => exact hj | 1, hj => exact hj), rowCell Zt 7 HX7.out, rowCell Zt 8 rfl⟩ (fun hH => ?_)
 clear hK K hH;(try simp only [Act.put, zL])
 refine zU 11 (v4) rfl ⟨rowMid Zt 5 (by intro j v hj; match j, hj with | 0, hj => exact hj | 1, hj => exact hj), rowCell Zt 7 HX7.out, rowCell Zt 8 rfl⟩ ?_
 (try simp only [Act.put, zL]);refine wpAnyH_done (by kernel_rfl) ?_ _
 go_wp2_with fail
 go_ret
 exact ⟨v4, rfl, g4, ee, fr⟩
theorem cput_3f {w : World} {B : Nat} {v : Value} {l : List UInt8} (h : SlB w B v l) (hl : l.length ≤ 2147483648) (hB : B ≤ w.heap.size) (x : Cm) (ok : CmOk w w.heap.size x) (hT : Tabs w) (hf : x.formed = true) (hk : x.k = 3) (gn : Nat) (hg : x.g = (gn : Int)) (hg4 : gn < 4) (hy : x.y = false) : Calls Tryz.prog 34 #[v, .agg x.cells.toArray] w (GotB w (C.put (C.put (idput (C.put l 3 1) x.i x.j) gn 1) 0 1)) := by
 (have HX0 : Hid (x.cells[0]? = some (.int .i64 3)) := by show _ = _; rw [← hk]; rfl);(have HX9 : Hid (x.cells[9]? = some (.bool false)) := by show _ = _; rw [← hy]; rfl);clear hy;(have HX7 : Hid (x.cells[7]? = some (.int .i64 (gn : Int))) := by show _ = _; rw [← hg]; rfl);have HL2 := idput_len (C.put l 3 1) x.i x.j;have HL3 := put_len2 (idput (C.put l 3 1) x.i x.j) gn 1;have k1 : IntKind.u64.wrap (gn : Int) = (gn : Int) := wrapOf (by omega);clear hg;have HT := Lib.hid hT;have HF := Lib.hid (fun z (hz : Below w.heap.size w z) => cformed_any x.k x.s x.q x.rs x.ws x.A1 x.c1 x.A2 x.c2 x.i x.j x.g x.st x.y z w.heap.size hz.size (ok.below hz (Nat.le_refl _)) (hT.below hz));have HFE : Hid (x.formed = T.cformed x.k x.s x.q x.rs x.ws x.i x.j x.g x.st x.y) := rfl;rw [← HFE.out, hf] at HF;have HO := Lib.hid ok;clear hT ok hf HFE;have HL1 := put_len2 l 3 1;obtain ⟨w0, hw0⟩ : ∃ w0, w0 = w.alloc (.cells x.cells.toArray 33) := ⟨_, rfl⟩;(have ee : Below w.heap.size w w0 := by rw [hw0]; exact (Below.refl _ _).alloc (Nat.le_refl _) _);(have Zt : w0.heap[w.heap.size]? = some (.cells x.cells.toArray 33) := by rw [hw0]; exact hpN _ _ rfl);have H := Lib.hid h;clear h
 go_enter Tryz.func34, Tryz.ntmps34
 go_upto_region 1 with fail
 rw [← hw0];clear hw0;refine wp_region_lit (wpList_load_mid rfl 33 _ rfl (w.heap.size) 0 rfl x.cells _ (rowAt Zt) Tryz.underlying33 rfl sizeCm ?_)
 go_wp2_with fail
 refine (HF.out w0 ee).mono ?_;rintro e z1 ⟨rfl, t⟩;have Zt := hpB Zt t;have ee := bU ee t;clear t;clear HF;have x0 := rowCell Zt 0 (v := .int .i64 3) (by rw [← hk]; rfl);clear hk
 go_wp2_with fail
 have sz_ := ee.size;refine (put_s (H.out.belowM ee hB) (by omega) (Nat.le_trans hB ee.size) 3 (by omega) 1).mono ?_;rintro e z2 ⟨v1, rfl, g1, t, fr⟩;have fr := Fresh.mono fr sz_;clear sz_;have Zt := hpB Zt t;have ee := bU ee t;clear t;have x0 := rowCell Zt 0 (v := .int .i64 3) HX0.out;have x9 := rowCell Zt 9 (v := .bool false) HX9.out
 go_upto_region 13 with fail
 clear x0 x9;have g1 : SlB z2.drew z2.drew.heap.size v1 (C.put l 3 1) := g1.drew;have Zt : z2.drew.heap[w.heap.size]? = some (.cells x.cells.toArray 33) := Zt;have ee := belowDrewS ee
 refine wp_region_held_drew (S := fun z' => z'.rangeAt w.heap.size 5 [.int .i64 x.i, .int .i64 x.j] ∧ z'.cell? ⟨w.heap.size, 7, none⟩ = some (.int .i64 (gn : Int))) (by kernel_rfl) ⟨rowMid Zt 5 (by intro j v hj; match j, hj with | 0, hj => exact hj | 1, hj => exact hj), rowCell Zt 7 HX7.out⟩ (fun hH => ?_)
 clear hH;generalize z2.drew = z3 at Zt g1 ee ⊢
 refine zU 0 (v1) rfl ⟨rowMid Zt 5 (by intro j v hj; match j, hj with | 0, hj => exact hj | 1, hj => exact hj), rowCell Zt 7 HX7.out⟩ ?_
 try simp only [Act.put, zL]
 refine zU 1 (.pointer (some ⟨w.heap.size, 5, none⟩)) rfl ⟨rowMid Zt 5 (by intro j v hj; match j, hj with | 0, hj => exact hj | 1, hj => exact hj), rowCell Zt 7 HX7.out⟩ ?_
 try simp only [Act.put, zL]
 refine zT 2 (.agg ([.int .i64 x.i, .int .i64 x.j]).toArray) rfl (yieldsIf_load_mid (by rfl) 26 _ rfl (w.heap.size) (5) rfl ([.int .i64 x.i, .int .i64 x.j]) _ (fun _ h => h.1) Tryz.underlying26 rfl sizeId) ⟨rowMid Zt 5 (by intro j v hj; match j, hj with | 0, hj => exact hj | 1, hj => exact hj), rowCell Zt 7 HX7.out⟩ ?_
 try simp only [Act.put, zL]
 refine zU 4 (.pointer (some ⟨w.heap.size, 7, none⟩)) rfl ⟨rowMid Zt 5 (by intro j v hj; match j, hj with | 0, hj => exact hj | 1, hj => exact hj), rowCell Zt 7 HX7.out⟩ ?_
 try simp only [Act.put, zL]
 refine zT 5 (.int .i64 (gn : Int)) rfl (Or.inl ⟨by rfl, fun w_ hS_ => by (obtain ⟨h1_, h2_⟩ := hS_; go_simp)⟩) ⟨rowMid Zt 5 (by intro j v hj; match j, hj with | 0, hj => exact hj | 1, hj => exact hj), rowCell Zt 7 HX7.out⟩ ?_
 try simp only [Act.put, zL]
 refine zT 6 (.int .u64 (gn : Int)) rfl (Or.inl ⟨by rfl, fun w_ hS_ => by (go_simp; first | done | (rw [k1]))⟩) ⟨rowMid Zt 5 (by intro j v hj; match j, hj with | 0, hj => exact hj | 1, hj => exact hj), rowCell Zt 7 HX7.out⟩ ?_
 try simp only [Act.put, zL]
 refine zU 8 (.int .u64 0) rfl ⟨rowMid Zt 5 (by intro j v hj; match j, hj with | 0, hj => exact hj | 1, hj => exact hj), rowCell Zt 7 HX7.out⟩ ?_
 (try simp only [Act.put, zL]);refine wrd 3 fun K hK => ?_;rw [if_pos (by rfl)]
 go_simp
 have sz_ := ee.size
 go_wp2_with (go_at_call 87; refine (putid_s g1 (by omega) (Nat.le_refl _) x.i x.j).mono ?_; rintro e z4 ⟨v2, rfl, g2, t, fr⟩)
 have fr := Fresh.mono fr sz_;clear sz_;have Zt := hpB Zt t;have ee := bU ee t;clear t
 refine hK.out _ _ ⟨rowMid Zt 5 (by intro j v hj; match j, hj with | 0, hj => exact hj | 1, hj => exact hj), rowCell Zt 7 HX7.out⟩ (fun hH => ?_)
 clear hK K hH;(try simp only [Act.put, zL]);refine wrd 7 fun K hK => ?_;rw [if_pos (by rfl)]
 go_simp
 have sz_ := ee.size
 go_wp2_with (go_at_call 32; refine (put_s g2 (by omega) (Nat.le_refl _) gn (by omega) 1).mono ?_; rintro e z5 ⟨v3, rfl, g3, t, fr⟩)
 have fr := Fresh.mono fr sz_;clear sz_;have Zt := hpB Zt t;have ee := bU ee t;clear t
 refine hK.out _ _ ⟨rowMid Zt 5 (by intro j v hj; match j, hj with | 0, hj => exact hj | 1, hj => exact hj), rowCell Zt 7 HX7.out⟩ (fun hH => ?_)
 clear hK K hH;(try simp only [Act.put, zL]);refine wrd 9 fun K hK => ?_;rw [if_pos (by rfl)]
 go_simp
 have sz_ := ee.size
 go_wp2_with (go_at_call 32; refine (put_s g3 (by omega) (Nat.le_refl _) 0 (by omega) 1).mono ?_; rintro e z6 ⟨v4, rfl, g4, t, fr⟩)
 have fr := Fresh.mono fr sz_;clear sz_;have Zt := hpB Zt t;have ee := bU ee t;clear t
 refine hK.out _ _ ⟨rowMid Zt 5 (by intro j v hj; match j, hj with | 0, hj => exact hj | 1, hj => exact hj), rowCell Zt 7 HX7.out⟩ (fun hH => ?_)
 clear hK K hH;(try simp only [Act.put, zL])
 refine zU 10 (v4) rfl ⟨rowMid Zt 5 (by intro j v hj; match j, hj with | 0, hj => exact hj | 1, hj => exact hj), rowCell Zt 7 HX7.out⟩ ?_
 (try simp only [Act.put, zL]);refine wpAnyH_done (by kernel_rfl) ?_ _
 go_wp2_with fail
 go_ret
 exact ⟨v4, rfl, g4, ee, fr⟩
theorem cput_3t {w : World} {B : Nat} {v : Value} {l : List UInt8} (h : SlB w B v l) (hl : l.length ≤ 2147483648) (hB : B ≤ w.heap.size) (x : Cm) (ok : CmOk w w.heap.size x) (hT : Tabs w) (hf : x.formed = true) (hk : x.k = 3) (gn : Nat) (hg : x.g = (gn : Int)) (hg4 : gn < 4) (hy : x.y = true) : Calls Tryz.prog 34 #[v, .agg x.cells.toArray] w (GotB w (C.put (C.put (idput (C.put l 3 1) x.i x.j) gn 1) 1 1)) := by
 (have HX0 : Hid (x.cells[0]? = some (.int .i64 3)) := by show _ = _; rw [← hk]; rfl);(have HX9 : Hid (x.cells[9]? = some (.bool true)) := by show _ = _; rw [← hy]; rfl);clear hy;(have HX7 : Hid (x.cells[7]? = some (.int .i64 (gn : Int))) := by show _ = _; rw [← hg]; rfl);have HL2 := idput_len (C.put l 3 1) x.i x.j;have HL3 := put_len2 (idput (C.put l 3 1) x.i x.j) gn 1;have k1 : IntKind.u64.wrap (gn : Int) = (gn : Int) := wrapOf (by omega);clear hg;have HT := Lib.hid hT;have HF := Lib.hid (fun z (hz : Below w.heap.size w z) => cformed_any x.k x.s x.q x.rs x.ws x.A1 x.c1 x.A2 x.c2 x.i x.j x.g x.st x.y z w.heap.size hz.size (ok.below hz (Nat.le_refl _)) (hT.below hz));have HFE : Hid (x.formed = T.cformed x.k x.s x.q x.rs x.ws x.i x.j x.g x.st x.y) := rfl;rw [← HFE.out, hf] at HF;have HO := Lib.hid ok;clear hT ok hf HFE;have HL1 := put_len2 l 3 1;obtain ⟨w0, hw0⟩ : ∃ w0, w0 = w.alloc (.cells x.cells.toArray 33) := ⟨_, rfl⟩;(have ee : Below w.heap.size w w0 := by rw [hw0]; exact (Below.refl _ _).alloc (Nat.le_refl _) _);(have Zt : w0.heap[w.heap.size]? = some (.cells x.cells.toArray 33) := by rw [hw0]; exact hpN _ _ rfl);have H := Lib.hid h;clear h
 go_enter Tryz.func34, Tryz.ntmps34
 go_upto_region 1 with fail
 rw [← hw0];clear hw0;refine wp_region_lit (wpList_load_mid rfl 33 _ rfl (w.heap.size) 0 rfl x.cells _ (rowAt Zt) Tryz.underlying33 rfl sizeCm ?_)
 go_wp2_with fail
 refine (HF.out w0 ee).mono ?_;rintro e z1 ⟨rfl, t⟩;have Zt := hpB Zt t;have ee := bU ee t;clear t;clear HF;have x0 := rowCell Zt 0 (v := .int .i64 3) (by rw [← hk]; rfl);clear hk
 go_wp2_with fail
 have sz_ := ee.size;refine (put_s (H.out.belowM ee hB) (by omega) (Nat.le_trans hB ee.size) 3 (by omega) 1).mono ?_;rintro e z2 ⟨v1, rfl, g1, t, fr⟩;have fr := Fresh.mono fr sz_;clear sz_;have Zt := hpB Zt t;have ee := bU ee t;clear t;have x0 := rowCell Zt 0 (v := .int .i64 3) HX0.out;have x9 := rowCell Zt 9 (v := .bool true) HX9.out
 go_upto_region 13 with fail
 clear x0 x9;have g1 : SlB z2.drew z2.drew.heap.size v1 (C.put l 3 1) := g1.drew;have Zt : z2.drew.heap[w.heap.size]? = some (.cells x.cells.toArray 33) := Zt;have ee := belowDrewS ee
 refine wp_region_held_drew (S := fun z' => z'.rangeAt w.heap.size 5 [.int .i64 x.i, .int .i64 x.j] ∧ z'.cell? ⟨w.heap.size, 7, none⟩ = some (.int .i64 (gn : Int))) (by kernel_rfl) ⟨rowMid Zt 5 (by intro j v hj; match j, hj with | 0, hj => exact hj | 1, hj => exact hj), rowCell Zt 7 HX7.out⟩ (fun hH => ?_)
 clear hH;generalize z2.drew = z3 at Zt g1 ee ⊢
 refine zU 0 (v1) rfl ⟨rowMid Zt 5 (by intro j v hj; match j, hj with | 0, hj => exact hj | 1, hj => exact hj), rowCell Zt 7 HX7.out⟩ ?_
 try simp only [Act.put, zL]
 refine zU 1 (.pointer (some ⟨w.heap.size, 5, none⟩)) rfl ⟨rowMid Zt 5 (by intro j v hj; match j, hj with | 0, hj => exact hj | 1, hj => exact hj), rowCell Zt 7 HX7.out⟩ ?_
 try simp only [Act.put, zL]
 refine zT 2 (.agg ([.int .i64 x.i, .int .i64 x.j]).toArray) rfl (yieldsIf_load_mid (by rfl) 26 _ rfl (w.heap.size) (5) rfl ([.int .i64 x.i, .int .i64 x.j]) _ (fun _ h => h.1) Tryz.underlying26 rfl sizeId) ⟨rowMid Zt 5 (by intro j v hj; match j, hj with | 0, hj => exact hj | 1, hj => exact hj), rowCell Zt 7 HX7.out⟩ ?_
 try simp only [Act.put, zL]
 refine zU 4 (.pointer (some ⟨w.heap.size, 7, none⟩)) rfl ⟨rowMid Zt 5 (by intro j v hj; match j, hj with | 0, hj => exact hj | 1, hj => exact hj), rowCell Zt 7 HX7.out⟩ ?_
 try simp only [Act.put, zL]
 refine zT 5 (.int .i64 (gn : Int)) rfl (Or.inl ⟨by rfl, fun w_ hS_ => by (obtain ⟨h1_, h2_⟩ := hS_; go_simp)⟩) ⟨rowMid Zt 5 (by intro j v hj; match j, hj with | 0, hj => exact hj | 1, hj => exact hj), rowCell Zt 7 HX7.out⟩ ?_
 try simp only [Act.put, zL]
 refine zT 6 (.int .u64 (gn : Int)) rfl (Or.inl ⟨by rfl, fun w_ hS_ => by (go_simp; first | done | (rw [k1]))⟩) ⟨rowMid Zt 5 (by intro j v hj; match j, hj with | 0, hj => exact hj | 1, hj => exact hj), rowCell Zt 7 HX7.out⟩ ?_
 try simp only [Act.put, zL]
 refine zU 8 (.int .u64 1) rfl ⟨rowMid Zt 5 (by intro j v hj; match j, hj with | 0, hj => exact hj | 1, hj => exact hj), rowCell Zt 7 HX7.out⟩ ?_
 (try simp only [Act.put, zL]);refine wrd 3 fun K hK => ?_;rw [if_pos (by rfl)]
 go_simp
 have sz_ := ee.size
 go_wp2_with (go_at_call 87; refine (putid_s g1 (by omega) (Nat.le_refl _) x.i x.j).mono ?_; rintro e z4 ⟨v2, rfl, g2, t, fr⟩)
 have fr := Fresh.mono fr sz_;clear sz_;have Zt := hpB Zt t;have ee := bU ee t;clear t
 refine hK.out _ _ ⟨rowMid Zt 5 (by intro j v hj; match j, hj with | 0, hj => exact hj | 1, hj => exact hj), rowCell Zt 7 HX7.out⟩ (fun hH => ?_)
 clear hK K hH;(try simp only [Act.put, zL]);refine wrd 7 fun K hK => ?_;rw [if_pos (by rfl)]
 go_simp
 have sz_ := ee.size
 go_wp2_with (go_at_call 32; refine (put_s g2 (by omega) (Nat.le_refl _) gn (by omega) 1).mono ?_; rintro e z5 ⟨v3, rfl, g3, t, fr⟩)
 have fr := Fresh.mono fr sz_;clear sz_;have Zt := hpB Zt t;have ee := bU ee t;clear t
 refine hK.out _ _ ⟨rowMid Zt 5 (by intro j v hj; match j, hj with | 0, hj => exact hj | 1, hj => exact hj), rowCell Zt 7 HX7.out⟩ (fun hH => ?_)
 clear hK K hH;(try simp only [Act.put, zL]);refine wrd 9 fun K hK => ?_;rw [if_pos (by rfl)]
 go_simp
 have sz_ := ee.size
 go_wp2_with (go_at_call 32; refine (put_s g3 (by omega) (Nat.le_refl _) 1 (by omega) 1).mono ?_; rintro e z6 ⟨v4, rfl, g4, t, fr⟩)
 have fr := Fresh.mono fr sz_;clear sz_;have Zt := hpB Zt t;have ee := bU ee t;clear t
 refine hK.out _ _ ⟨rowMid Zt 5 (by intro j v hj; match j, hj with | 0, hj => exact hj | 1, hj => exact hj), rowCell Zt 7 HX7.out⟩ (fun hH => ?_)
 clear hK K hH;(try simp only [Act.put, zL])
 refine zU 10 (v4) rfl ⟨rowMid Zt 5 (by intro j v hj; match j, hj with | 0, hj => exact hj | 1, hj => exact hj), rowCell Zt 7 HX7.out⟩ ?_
 (try simp only [Act.put, zL]);refine wpAnyH_done (by kernel_rfl) ?_ _
 go_wp2_with fail
 go_ret
 exact ⟨v4, rfl, g4, ee, fr⟩
theorem cput_s {w : World} {B : Nat} {v : Value} {l : List UInt8} (h : SlB w B v l) (hl : l.length ≤ 2147483648) (hB : B ≤ w.heap.size) (x : Cm) (ok : CmOk w w.heap.size x) (hT : Tabs w) : Calls Tryz.prog 34 #[v, .agg x.cells.toArray] w (GotB w (cput l x)) := by
 unfold cput
 cases hf : x.formed with
 | false => exact cput_no h hl hB x ok hT hf
 | true =>
   rw [cond_true];rcases cformed_k hf with hk | hk | hk | hk
   ·rw [if_neg (by omega), if_neg (by omega), if_neg (by omega)]; exact cput_0 h hl hB x ok hT hf hk
   ·rw [if_pos hk]; exact cput_1 h hl hB x ok hT hf hk
   ·rw [if_neg (by omega), if_pos hk];obtain ⟨_, _, h3, h4, h5, h6⟩ := cformed_2 hf hk;exact cput_2 h hl hB x ok hT hf hk x.g.toNat (by omega) (by omega) h6
   ·rw [if_neg (by omega), if_neg (by omega), if_pos hk];obtain ⟨_, _, h3, h4⟩ := cformed_3 hf hk
    cases hy : x.y with
    | false => exact cput_3f h hl hB x ok hT hf hk x.g.toNat (by omega) (by omega) hy
    | true => exact cput_3t h hl hB x ok hT hf hk x.g.toNat (by omega) (by omega) hy
end Go.Proofs.YthclniimhpmeoaaGreatDoor
