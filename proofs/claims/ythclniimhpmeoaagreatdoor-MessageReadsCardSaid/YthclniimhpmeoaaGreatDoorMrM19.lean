import Derived.Test.YthclniimhpmeoaaGreatDoorMrM13
set_option maxHeartbeats 6400000
set_option linter.unusedSimpArgs false
set_option linter.unusedVariables false
namespace Go.Proofs.YthclniimhpmeoaaGreatDoor
set_option maxRecDepth 20000
open Go.RowKit T
theorem putid_no {w : World} {B : Nat} {v : Value} {l : List UInt8} (h : SlB w B v l) (hl : l.length ≤ 4294967296) (hB : B ≤ w.heap.size) (s q : Int) (hf : idb s q = false) : Calls Tryz.prog 87 #[v, .agg #[.int .i64 s, .int .i64 q]] w (GotB w l) := by
 have HI := Lib.hid (fun z => tid_any s q z);rw [hf] at HI;clear hf;obtain ⟨w0, hw0⟩ : ∃ w0, w0 = w.alloc (.cells [.int .i64 s, .int .i64 q].toArray 26) := ⟨_, rfl⟩;(have ee : Below w.heap.size w w0 := by rw [hw0]; exact (Below.refl _ _).alloc (Nat.le_refl _) _);(have Zt : w0.heap[w.heap.size]? = some (.cells [.int .i64 s, .int .i64 q].toArray 26) := by rw [hw0]; exact hpN _ _ rfl);have H := Lib.hid h;clear h
 go_enter Tryz.func87, Tryz.ntmps87
 go_upto_region 1 with fail
 rw [← hw0];clear hw0;have c0 := rowCell Zt 0 rfl;have c1 := rowCell Zt 1 rfl
 go_wp2_with fail
 refine (HI.out w0).mono ?_;rintro e z1 ⟨rfl, t⟩;have Zt := hpB Zt t;have ee := bU ee t;clear t
 go_wp2_with fail
 have sz_ := ee.size;refine (clone_s (H.out.belowM ee hB) (by omega) (Nat.le_trans hB ee.size)).mono ?_;rintro e z2 ⟨v2, rfl, h2, t, fr⟩;have fr := Fresh.mono fr sz_;clear sz_;have Zt := hpB Zt t;have ee := bU ee t;clear t
 go_wp2_with fail
 go_ret
 exact ⟨v2, rfl, h2, ee, fr⟩
theorem putid_yes {w : World} {B : Nat} {v : Value} {l : List UInt8} (h : SlB w B v l) (hl : l.length ≤ 4294967296) (hB : B ≤ w.heap.size) (s q : Nat) (h1 : 1 ≤ s) (h2 : s ≤ 8) (h3 : 1 ≤ q) (h4 : q ≤ 1048576) : Calls Tryz.prog 87 #[v, .agg #[.int .i64 (s : Int), .int .i64 (q : Int)]] w (GotB w (C.put (C.put l s 1) q 4)) := by
 have HI := Lib.hid (fun z => tid_any s q z);rw [show idb (s : Int) (q : Int) = true from decide_eq_true (by omega)] at HI;have HL1 := put_len2 l s 1;have k1 : IntKind.u64.wrap (s : Int) = (s : Int) := wrapOf (by omega);have k2 : IntKind.u64.wrap (q : Int) = (q : Int) := wrapOf (by omega);obtain ⟨w0, hw0⟩ : ∃ w0, w0 = w.alloc (.cells [.int .i64 (s : Int), .int .i64 (q : Int)].toArray 26) := ⟨_, rfl⟩;(have ee : Below w.heap.size w w0 := by rw [hw0]; exact (Below.refl _ _).alloc (Nat.le_refl _) _);(have Zt : w0.heap[w.heap.size]? = some (.cells [.int .i64 (s : Int), .int .i64 (q : Int)].toArray 26) := by rw [hw0]; exact hpN _ _ rfl);have H := Lib.hid h;clear h
 go_enter Tryz.func87, Tryz.ntmps87
 go_upto_region 1 with fail
 rw [← hw0];clear hw0;have c0 := rowCell Zt 0 rfl;have c1 := rowCell Zt 1 rfl
 go_wp2_with fail
 refine (HI.out w0).mono ?_;rintro e z1 ⟨rfl, t⟩;have Zt := hpB Zt t;have ee := bU ee t;clear t;clear c0 c1
 go_upto_region 3 with fail
 have Zt : z1.drew.heap[w.heap.size]? = some (.cells [.int .i64 (s : Int), .int .i64 (q : Int)].toArray 26) := Zt;have ee := belowDrewS ee;refine wp_region_held_drew (S := fun z' => z'.cell? ⟨w.heap.size, 0, none⟩ = some (.int .i64 (s : Int)) ∧ z'.cell? ⟨w.heap.size, 1, none⟩ = some (.int .i64 (q : Int))) (by kernel_rfl) ⟨rowCell Zt 0 rfl, rowCell Zt 1 rfl⟩ (fun hH => ?_);clear hH;generalize z1.drew = z2 at Zt  ee ⊢;refine zU 0 (v) rfl ⟨rowCell Zt 0 rfl, rowCell Zt 1 rfl⟩ ?_;(try simp only [Act.put, zL]);refine zU 1 (.pointer (some ⟨w.heap.size, 0, none⟩)) rfl ⟨rowCell Zt 0 rfl, rowCell Zt 1 rfl⟩ ?_;(try simp only [Act.put, zL]);refine zT 2 (.int .i64 (s : Int)) rfl (Or.inl ⟨by rfl, fun w_ hS_ => by (obtain ⟨h1_, h2_⟩ := hS_; go_simp)⟩) ⟨rowCell Zt 0 rfl, rowCell Zt 1 rfl⟩ ?_;(try simp only [Act.put, zL])
 refine zT 3 (.int .u64 (s : Int)) rfl (Or.inl ⟨by rfl, fun w_ hS_ => by (go_simp; first | done | (rw [k1]))⟩) ⟨rowCell Zt 0 rfl, rowCell Zt 1 rfl⟩ ?_
 (try simp only [Act.put, zL]);refine zU 5 (.pointer (some ⟨w.heap.size, 1, none⟩)) rfl ⟨rowCell Zt 0 rfl, rowCell Zt 1 rfl⟩ ?_;(try simp only [Act.put, zL]);refine zT 6 (.int .i64 (q : Int)) rfl (Or.inl ⟨by rfl, fun w_ hS_ => by (obtain ⟨h1_, h2_⟩ := hS_; go_simp)⟩) ⟨rowCell Zt 0 rfl, rowCell Zt 1 rfl⟩ ?_;(try simp only [Act.put, zL])
 refine zT 7 (.int .u64 (q : Int)) rfl (Or.inl ⟨by rfl, fun w_ hS_ => by (go_simp; first | done | (rw [k2]))⟩) ⟨rowCell Zt 0 rfl, rowCell Zt 1 rfl⟩ ?_
 (try simp only [Act.put, zL]);refine wrd 4 fun K hK => ?_;rw [if_pos (by rfl)]
 go_simp
 have sz_ := ee.size
 go_wp2_with (go_at_call 32; refine (put_s (H.out.belowM ee hB) (by omega) (Nat.le_trans hB ee.size) s (by omega) 1).mono ?_; rintro e z3 ⟨v1, rfl, g1, t, fr⟩)
 have fr := Fresh.mono fr sz_;clear sz_;have Zt := hpB Zt t;have ee := bU ee t;clear t;refine hK.out _ _ ⟨rowCell Zt 0 rfl, rowCell Zt 1 rfl⟩ (fun hH => ?_);clear hK K hH;(try simp only [Act.put, zL]);refine wrd 8 fun K hK => ?_;rw [if_pos (by rfl)]
 go_simp
 have sz_ := ee.size
 go_wp2_with (go_at_call 32; refine (put_s g1 (by omega) (Nat.le_refl _) q (by omega) 4).mono ?_; rintro e z4 ⟨v2, rfl, g2, t, fr⟩)
 have fr := Fresh.mono fr sz_;clear sz_;have Zt := hpB Zt t;have ee := bU ee t;clear t;refine hK.out _ _ ⟨rowCell Zt 0 rfl, rowCell Zt 1 rfl⟩ (fun hH => ?_);clear hK K hH;(try simp only [Act.put, zL]);refine zU 9 (v2) rfl ⟨rowCell Zt 0 rfl, rowCell Zt 1 rfl⟩ ?_;(try simp only [Act.put, zL]);refine wpAnyH_done (by kernel_rfl) ?_ _
 go_wp2_with fail
 go_ret
 exact ⟨v2, rfl, g2, ee, fr⟩
theorem putid_s {w : World} {B : Nat} {v : Value} {l : List UInt8} (h : SlB w B v l) (hl : l.length ≤ 4294967296) (hB : B ≤ w.heap.size) (s q : Int) : Calls Tryz.prog 87 #[v, .agg #[.int .i64 s, .int .i64 q]] w (GotB w (idput l s q)) := by
 cases hf : idb s q with
 | false => rw [show idput l s q = l by unfold idput; rw [hf]; rfl]; exact putid_no h hl hB s q hf
 | true =>
   obtain ⟨a, b, rfl, rfl, h1, h2, h3, h4⟩ := idb_nat hf;rw [show idput l (a : Int) (b : Int) = C.put (C.put l a 1) b 4 by unfold idput; rw [hf]; rfl];exact putid_yes h hl hB a b h1 h2 h3 h4
theorem tput_no {w : World} {B : Nat} {v : Value} {l : List UInt8} (h : SlB w B v l) (hl : l.length ≤ 4294967296) (hB : B ≤ w.heap.size) (s q : Int) (rs : List Rd1) (ws : List Wr1) (A1 : Option Addr) (c1 : Nat) (A2 : Option Addr) (c2 : Nat) (ok : TxOk w w.heap.size rs ws A1 c1 A2 c2) (hT : Tabs w) (hf : formed s q rs ws = false) : Calls Tryz.prog 86 #[v, .agg #[.int .i64 s, .int .i64 q, .slice A1 rs.length c1, .slice A2 ws.length c2]] w (GotB w l) := by
 have HR := Lib.hid ok.r;have HW := Lib.hid ok.w;have HRO := Lib.hid ok.ro;have HWO := Lib.hid ok.wo;have q1 := ok.rc;have q2 := ok.wc;have q3 := ok.rm;have q4 := ok.wm;unfold maxLen at q3 q4;have HT := Lib.hid hT;have HF := Lib.hid (fun z (hz : Below w.heap.size w z) => tformed_any s q rs ws A1 c1 A2 c2 z w.heap.size hz.size (ok.below hz (Nat.le_refl _)) (hT.below hz));rw [hf] at HF;clear ok hT;obtain ⟨n1, hn1⟩ : ∃ n, n = rs.length := ⟨_, rfl⟩;obtain ⟨n2, hn2⟩ : ∃ n, n = ws.length := ⟨_, rfl⟩;have HN1 := Lib.hid hn1;have HN2 := Lib.hid hn2;rw [← hn1, ← hn2] at HF ⊢;rw [← hn1] at q1;rw [← hn2] at q2;clear hn1 hn2;clear hf;obtain ⟨w0, hw0⟩ : ∃ w0, w0 = w.alloc (.cells [.int .i64 s, .int .i64 q, .slice A1 n1 c1, .slice A2 n2 c2].toArray 30) := ⟨_, rfl⟩;(have ee : Below w.heap.size w w0 := by rw [hw0]; exact (Below.refl _ _).alloc (Nat.le_refl _) _);(have Zt : w0.heap[w.heap.size]? = some (.cells [.int .i64 s, .int .i64 q, .slice A1 n1 c1, .slice A2 n2 c2].toArray 30) := by rw [hw0]; exact hpN _ _ rfl);have H := Lib.hid h;clear h
 go_enter Tryz.func86, Tryz.ntmps86
 go_upto_region 1 with fail
 rw [← hw0];clear hw0;refine wp_region_lit (wpList_load_mid rfl 30 _ rfl (w.heap.size) 0 rfl [.int .i64 s, .int .i64 q, .slice A1 n1 c1, .slice A2 n2 c2] _ (rowAt Zt) Tryz.underlying30 rfl sizeTx ?_)
 go_wp2_with fail
 refine (HF.out w0 ee).mono ?_;rintro e z1 ⟨rfl, t⟩;have Zt := hpB Zt t;have ee := bU ee t;clear t
 go_wp2_with fail
 have sz_ := ee.size;refine (clone_s (H.out.belowM ee hB) (by omega) (Nat.le_trans hB ee.size)).mono ?_;rintro e z2 ⟨v2, rfl, h2, t, fr⟩;have fr := Fresh.mono fr sz_;clear sz_;have Zt := hpB Zt t;have ee := bU ee t;clear t
 go_wp2_with fail
 go_ret
 exact ⟨v2, rfl, h2, ee, fr⟩
theorem tput_yes {w : World} {B : Nat} {v : Value} {l : List UInt8} (h : SlB w B v l) (hl : l.length ≤ 4294967296) (hB : B ≤ w.heap.size) (s q : Int) (rs : List Rd1) (ws : List Wr1) (A1 : Option Addr) (c1 : Nat) (A2 : Option Addr) (c2 : Nat) (ok : TxOk w w.heap.size rs ws A1 c1 A2 c2) (hT : Tabs w) (hf : formed s q rs ws = true) : Calls Tryz.prog 86 #[v, .agg #[.int .i64 s, .int .i64 q, .slice A1 rs.length c1, .slice A2 ws.length c2]] w (GotB w (ws.foldl wput (C.put (rs.foldl rput (C.put (idput l s q) rs.length 1)) ws.length 1))) := by
 obtain ⟨hi, hr6, hw6⟩ := formed_few hf;have HW6 := Lib.hid hw6;have HR6 := Lib.hid hr6;have HR := Lib.hid ok.r;have HW := Lib.hid ok.w;have HRO := Lib.hid ok.ro;have HWO := Lib.hid ok.wo;have q1 := ok.rc;have q2 := ok.wc;have q3 := ok.rm;have q4 := ok.wm;unfold maxLen at q3 q4;have HT := Lib.hid hT;have HF := Lib.hid (fun z (hz : Below w.heap.size w z) => tformed_any s q rs ws A1 c1 A2 c2 z w.heap.size hz.size (ok.below hz (Nat.le_refl _)) (hT.below hz));rw [hf] at HF;clear ok hT;obtain ⟨n1, hn1⟩ : ∃ n, n = rs.length := ⟨_, rfl⟩;obtain ⟨n2, hn2⟩ : ∃ n, n = ws.length := ⟨_, rfl⟩;have HN1 := Lib.hid hn1;have HN2 := Lib.hid hn2;rw [← hn1, ← hn2] at HF ⊢;rw [← hn1] at q1;rw [← hn2] at q2;clear hn1 hn2;rw [← HN1.out] at hr6;rw [← HN2.out] at hw6;have HL1 := idput_len l s q;have HL2 := put_len2 (idput l s q) n1 1;have k1 : IntKind.u64.wrap (n1 : Int) = (n1 : Int) := wrapOf (by omega);have k2 : IntKind.u64.wrap (n2 : Int) = (n2 : Int) := wrapOf (by omega);clear hi hf;obtain ⟨w0, hw0⟩ : ∃ w0, w0 = w.alloc (.cells [.int .i64 s, .int .i64 q, .slice A1 n1 c1, .slice A2 n2 c2].toArray 30) := ⟨_, rfl⟩;(have ee : Below w.heap.size w w0 := by rw [hw0]; exact (Below.refl _ _).alloc (Nat.le_refl _) _);(have Zt : w0.heap[w.heap.size]? = some (.cells [.int .i64 s, .int .i64 q, .slice A1 n1 c1, .slice A2 n2 c2].toArray 30) := by rw [hw0]; exact hpN _ _ rfl);have H := Lib.hid h;clear h
 go_enter Tryz.func86, Tryz.ntmps86
 go_upto_region 1 with fail
 rw [← hw0];clear hw0;refine wp_region_lit (wpList_load_mid rfl 30 _ rfl (w.heap.size) 0 rfl [.int .i64 s, .int .i64 q, .slice A1 n1 c1, .slice A2 n2 c2] _ (rowAt Zt) Tryz.underlying30 rfl sizeTx ?_)
 go_wp2_with fail
 refine (HF.out w0 ee).mono ?_;rintro e z1 ⟨rfl, t⟩;have Zt := hpB Zt t;have ee := bU ee t;clear t
 go_upto_region 3 with fail
 clear HF;have Zt : z1.drew.heap[w.heap.size]? = some (.cells [.int .i64 s, .int .i64 q, .slice A1 n1 c1, .slice A2 n2 c2].toArray 30) := Zt;have ee := belowDrewS ee
 refine wp_region_held_drew (S := fun z' => z'.rangeAt w.heap.size 0 [.int .i64 s, .int .i64 q] ∧ z'.cell? ⟨w.heap.size, 2, none⟩ = some (.slice A1 n1 c1)) (by kernel_rfl) ⟨rowMid Zt 0 (by intro j v hj; match j, hj with | 0, hj => exact hj | 1, hj => exact hj), rowCell Zt 2 rfl⟩ (fun hH => ?_)
 clear hH;generalize z1.drew = z2 at Zt  ee ⊢
 refine zU 0 (v) rfl ⟨rowMid Zt 0 (by intro j v hj; match j, hj with | 0, hj => exact hj | 1, hj => exact hj), rowCell Zt 2 rfl⟩ ?_
 try simp only [Act.put, zL]
 refine zU 1 (.pointer (some ⟨w.heap.size, 0, none⟩)) rfl ⟨rowMid Zt 0 (by intro j v hj; match j, hj with | 0, hj => exact hj | 1, hj => exact hj), rowCell Zt 2 rfl⟩ ?_
 try simp only [Act.put, zL]
 refine zT 2 (.agg ([.int .i64 s, .int .i64 q]).toArray) rfl (yieldsIf_load_mid (by rfl) 26 _ rfl (w.heap.size) (0) rfl ([.int .i64 s, .int .i64 q]) _ (fun _ h => h.1) Tryz.underlying26 rfl sizeId) ⟨rowMid Zt 0 (by intro j v hj; match j, hj with | 0, hj => exact hj | 1, hj => exact hj), rowCell Zt 2 rfl⟩ ?_
 try simp only [Act.put, zL]
 refine zU 4 (.pointer (some ⟨w.heap.size, 2, none⟩)) rfl ⟨rowMid Zt 0 (by intro j v hj; match j, hj with | 0, hj => exact hj | 1, hj => exact hj), rowCell Zt 2 rfl⟩ ?_
 try simp only [Act.put, zL]
 refine zT 5 (.slice A1 n1 c1) rfl (Or.inl ⟨by rfl, fun w_ hS_ => by (obtain ⟨h1_, h2_⟩ := hS_; go_simp)⟩) ⟨rowMid Zt 0 (by intro j v hj; match j, hj with | 0, hj => exact hj | 1, hj => exact hj), rowCell Zt 2 rfl⟩ ?_
 try simp only [Act.put, zL]
 refine zU 6 (.int .i64 (n1 : Int)) rfl ⟨rowMid Zt 0 (by intro j v hj; match j, hj with | 0, hj => exact hj | 1, hj => exact hj), rowCell Zt 2 rfl⟩ ?_
 try simp only [Act.put, zL]
 refine zT 7 (.int .u64 (n1 : Int)) rfl (Or.inl ⟨by rfl, fun w_ hS_ => by (go_simp; first | done | (rw [k1]))⟩) ⟨rowMid Zt 0 (by intro j v hj; match j, hj with | 0, hj => exact hj | 1, hj => exact hj), rowCell Zt 2 rfl⟩ ?_
 (try simp only [Act.put, zL]);refine wrd 3 fun K hK => ?_;rw [if_pos (by rfl)]
 go_simp
 have sz_ := ee.size
 go_wp2_with (go_at_call 87; refine (putid_s (H.out.belowM ee hB) hl (Nat.le_trans hB ee.size) s q).mono ?_; rintro e z3 ⟨v1, rfl, g1, t, fr⟩)
 have fr := Fresh.mono fr sz_;clear sz_;have Zt := hpB Zt t;have ee := bU ee t;clear t
 refine hK.out _ _ ⟨rowMid Zt 0 (by intro j v hj; match j, hj with | 0, hj => exact hj | 1, hj => exact hj), rowCell Zt 2 rfl⟩ (fun hH => ?_)
 clear hK K hH;(try simp only [Act.put, zL]);refine wrd 8 fun K hK => ?_;rw [if_pos (by rfl)]
 go_simp
 have sz_ := ee.size
 go_wp2_with (go_at_call 32; refine (put_s g1 (by omega) (Nat.le_refl _) n1 (by omega) 1).mono ?_; rintro e z4 ⟨v2, rfl, g2, t, fr⟩)
 have fr := Fresh.mono fr sz_;clear sz_;have Zt := hpB Zt t;have ee := bU ee t;clear t
 refine hK.out _ _ ⟨rowMid Zt 0 (by intro j v hj; match j, hj with | 0, hj => exact hj | 1, hj => exact hj), rowCell Zt 2 rfl⟩ (fun hH => ?_)
 clear hK K hH;(try simp only [Act.put, zL])
 refine zU 9 (v2) rfl ⟨rowMid Zt 0 (by intro j v hj; match j, hj with | 0, hj => exact hj | 1, hj => exact hj), rowCell Zt 2 rfl⟩ ?_
 (try simp only [Act.put, zL]);refine wpAnyH_done (by kernel_rfl) ?_ _;have x2 := rowCell Zt 2 rfl
 go_wp2_with fail
 clear x2
 go_loopw [0, 26] (fun u i wr => ∃ (k : Nat) (vv : Value), k ≤ n1 ∧ i = .int .i64 (k : Int) ∧ u = vv ∧ Hid (SlB wr wr.heap.size vv ((rs.take k).foldl rput (C.put (idput l s q) n1 1))) ∧ Hid (wr.heap[w.heap.size]? = some (.cells [.int .i64 s, .int .i64 q, .slice A1 n1 c1, .slice A2 n2 c2].toArray 30)) ∧ Hid (Fresh w.heap.size vv) ∧ Hid (Below w.heap.size w wr)) (fun _ i _ => n1 - (intOf i).toNat)
 case atStart => exact ⟨0, v2, Nat.zero_le _, rfl, rfl, g2, Zt, fr, ee⟩
 case round =>
  clear Zt ee g2 fr;obtain ⟨k, vv, hk, rfl, hu, hs, Zt, fr, ee⟩ := hrel;have hu := hu.symm;subst hu;have Zt := Zt.out;have ee := ee.out;have hs := hs.out
  by_cases hlt : k < n1
  ·(have hkl : k < rs.length := by rw [← HN1.out]; exact hlt);obtain ⟨bo, off, rfl, hbo, hr⟩ := rowsGet HR.out hkl;have HX : Hid (okR (rs[k]'hkl)) := HRO.out _ (List.getElem_mem hkl)
   have HK : Hid (((rs.take (k + 1)).foldl rput (C.put (idput l s q) n1 1)) = rput (((rs.take k).foldl rput (C.put (idput l s q) n1 1))) (rs[k]'hkl)) := by
    show _ = _;rw [List.take_succ_eq_append_getElem hkl, List.foldl_append]; rfl
   have hlen := rfold_len (rs.take k) (C.put (idput l s q) n1 1);(have hlt6 : (rs.take k).length ≤ 6 := by rw [List.length_take]; omega);generalize (rs.take k).foldl rput (C.put (idput l s q) n1 1) = lk at hs HK hlen;generalize rs[k] = x at hr HX HK;obtain ⟨xk, xv⟩ := x;have hx1 := HX.out.1;have hx2 := HX.out.2;simp only at hx1 hx2;have hpl := puttext_len lk xk;(have hsz : (⟨xk.toArray⟩ : ByteArray).size ≤ 9223372036854775807 := by simpa [ByteArray.size] using hx1)
   go_upto_region 6 with fail
   refine wp_region_lit ?_;have ey : Below wr.heap.size wr wr := Below.refl _ _
   iterate 27 (first | with_reducible refine isLoad (ty := 161) rfl ?_ | go_step)
   refine wpList_load_mid rfl 161 _ rfl (bo) (off + k * 2) rfl (encR (xk, xv)) _ (rangeB hr ee hbo) Tryz.underlying161 rfl sizeRd ?_;have e0s := ee.size;(iterate 3 go_step);have lZt := (Array.getElem?_eq_some_iff.1 Zt).1;have Zt := hpA Zt (.cells #[.string ⟨#[]⟩, .int .u64 0] 161);have ee := ee.alloc ee.size (.cells #[.string ⟨#[]⟩, .int .u64 0] 161);have ey := ey.alloc ey.size (.cells #[.string ⟨#[]⟩, .int .u64 0] 161);have Zi := hpN wr (.cells #[.string ⟨#[]⟩, .int .u64 0] 161) rfl;generalize wr.alloc (.cells #[.string ⟨#[]⟩, .int .u64 0] 161) = z5 at Zt Zi ee ey ⊢
   iterate 27 (first | with_reducible refine isStore (ty := 161) rfl ?_ | go_step)
   refine wpList_store_row rfl 161 _ _ rfl (wr.heap.size) (encR (xk, xv)).toArray rfl rfl 161 _ Zi sizeRd (by rfl) (encR_one _) ?_;have N_ := setRow_heap z5 (wr.heap.size) _ (encR (xk, xv)).toArray _ _ Zi;have ee := belowSet (cs := (encR (xk, xv)).toArray) ee Zi (by omega);have ey := belowSet (cs := (encR (xk, xv)).toArray) ey Zi (by omega);have Zt := hpR Zt (g' := wr.heap.size) (by omega) (encR (xk, xv)).toArray;clear Zi;have Zi := N_;clear N_;generalize z5.setRow (wr.heap.size) (encR (xk, xv)).toArray = z6 at Zt Zi ee ey ⊢
   skip
   go_upto_region 7 with fail
   have Zt : z6.drew.heap[w.heap.size]? = some (.cells [.int .i64 s, .int .i64 q, .slice (some ⟨bo, off, none⟩) n1 c1, .slice A2 n2 c2].toArray 30) := Zt;have Zi : z6.drew.heap[wr.heap.size]? = some (.cells (encR (xk, xv)).toArray 161) := Zi;have ee := belowDrewS ee;have ey := belowDrewS ey;refine wp_region_held_drew (S := fun z' => z'.cell? ⟨wr.heap.size, 0, none⟩ = some (.string ⟨xk.toArray⟩) ∧ z'.cell? ⟨wr.heap.size, 1, none⟩ = some (.int .u64 (xv : Int))) (by kernel_rfl) ⟨rowCell Zi 0 rfl, rowCell Zi 1 rfl⟩ (fun hH => ?_);clear hH;generalize z6.drew = z7 at Zt Zi  ee ey ⊢;refine zU 0 (vv) rfl ⟨rowCell Zi 0 rfl, rowCell Zi 1 rfl⟩ ?_;(try simp only [Act.put, zL]);refine zU 1 (.pointer (some ⟨wr.heap.size, 0, none⟩)) rfl ⟨rowCell Zi 0 rfl, rowCell Zi 1 rfl⟩ ?_;(try simp only [Act.put, zL]);refine zT 2 (.string ⟨xk.toArray⟩) rfl (Or.inl ⟨by rfl, fun w_ hS_ => by (obtain ⟨h1_, h2_⟩ := hS_; go_simp)⟩) ⟨rowCell Zi 0 rfl, rowCell Zi 1 rfl⟩ ?_;(try simp only [Act.put, zL]);refine zU 4 (.pointer (some ⟨wr.heap.size, 1, none⟩)) rfl ⟨rowCell Zi 0 rfl, rowCell Zi 1 rfl⟩ ?_;(try simp only [Act.put, zL]);refine zT 5 (.int .u64 (xv : Int)) rfl (Or.inl ⟨by rfl, fun w_ hS_ => by (obtain ⟨h1_, h2_⟩ := hS_; go_simp)⟩) ⟨rowCell Zi 0 rfl, rowCell Zi 1 rfl⟩ ?_;(try simp only [Act.put, zL]);refine wrd 3 fun K hK => ?_;rw [if_pos (by rfl)]
   go_simp
   have sz_ := ee.size
   go_wp2_with (go_at_call 111; refine (puttext_s (hs.belowM ey (Nat.le_refl _)) (by omega) (by have := ey.size; omega) _ hsz).mono ?_; rintro e z8 ⟨v1, rfl, g1, t, fr⟩)
   have fr := Fresh.mono fr sz_;clear sz_;have Zt := hpB Zt t;have Zi := hpB Zi t;have ee := bU ee t;have ey := bU ey t;clear t;refine hK.out _ _ ⟨rowCell Zi 0 rfl, rowCell Zi 1 rfl⟩ (fun hH => ?_);clear hK K hH;(try simp only [Act.put, zL]);refine wrd 6 fun K hK => ?_;rw [if_pos (by rfl)]
   go_simp
   have sz_ := ee.size
   go_wp2_with (go_at_call 32; refine (put_s g1 (by omega) (Nat.le_refl _) xv hx2 8).mono ?_; rintro e z9 ⟨v2, rfl, hs, t, fr⟩)
   have fr := Fresh.mono fr sz_;clear sz_;have Zt := hpB Zt t;have Zi := hpB Zi t;have ee := bU ee t;have ey := bU ey t;clear t;refine hK.out _ _ ⟨rowCell Zi 0 rfl, rowCell Zi 1 rfl⟩ (fun hH => ?_);clear hK K hH;(try simp only [Act.put, zL]);refine zU 7 (v2) rfl ⟨rowCell Zi 0 rfl, rowCell Zi 1 rfl⟩ ?_;(try simp only [Act.put, zL]);refine wpAnyH_done (by kernel_rfl) ?_ _
   go_wp2_with fail
   go_roundw
   case rel => exact ⟨k + 1, _, by omega, by go_num, rfl, HK.out ▸ hs, Zt, fr, ee⟩
   case measure => simp [intOf]; omega
  ·(obtain rfl : n1 = k := by omega);(have htk : rs.take n1 = rs := by rw [HN1.out]; exact List.take_length);rw [htk] at hs;clear htk hlt k1;have hlr := rfold_len rs (C.put (idput l s q) n1 1);rw [← HN1.out] at hlr;obtain ⟨lr, hlr0⟩ : ∃ lr, lr = rs.foldl rput (C.put (idput l s q) n1 1) := ⟨_, rfl⟩;have HLR := Lib.hid hlr0;rw [← hlr0] at hs hlr;clear hlr0;have HL3 := put_len2 lr n2 1;have x3 := rowCell Zt 3 rfl;have ey : Below wr.heap.size wr wr := Below.refl _ _
   go_wp2_with fail
   have sz_ := ee.size;refine (put_s hs (by omega) (Nat.le_refl _) n2 (by omega) 1).mono ?_;rintro e z21 ⟨v2, rfl, g2, t, fr⟩;have fr := Fresh.mono fr sz_;clear sz_;have Zt := hpB Zt t;have ee := bU ee t;clear t;clear x3 hs ey k2;have x3 := rowCell Zt 3 rfl
   go_wp2_with fail
   clear x3
   go_loopw [0, 47] (fun u i wr => ∃ (k : Nat) (vv : Value), k ≤ n2 ∧ i = .int .i64 (k : Int) ∧ u = vv ∧ Hid (SlB wr wr.heap.size vv ((ws.take k).foldl wput (C.put lr n2 1))) ∧ Hid (wr.heap[w.heap.size]? = some (.cells [.int .i64 s, .int .i64 q, .slice A1 n1 c1, .slice A2 n2 c2].toArray 30)) ∧ Hid (Fresh w.heap.size vv) ∧ Hid (Below w.heap.size w wr)) (fun _ i _ => n2 - (intOf i).toNat)
   case atStart => exact ⟨0, v2, Nat.zero_le _, rfl, rfl, g2, Zt, fr, ee⟩
   case round =>
    clear Zt ee g2 fr;obtain ⟨k, vv, hk, rfl, hu, hs, Zt, fr, ee⟩ := hrel;have hu := hu.symm;subst hu;have Zt := Zt.out;have ee := ee.out;have hs := hs.out
    by_cases hlt : k < n2
    ·(have hkl : k < ws.length := by rw [← HN2.out]; exact hlt);obtain ⟨bo, off, rfl, hbo, hr⟩ := rowsGet HW.out hkl;have HX : Hid (okW (ws[k]'hkl)) := HWO.out _ (List.getElem_mem hkl)
     have HK : Hid (((ws.take (k + 1)).foldl wput (C.put lr n2 1)) = wput (((ws.take k).foldl wput (C.put lr n2 1))) (ws[k]'hkl)) := by
      show _ = _;rw [List.take_succ_eq_append_getElem hkl, List.foldl_append]; rfl
     have hlen := wfold_len (ws.take k) (C.put lr n2 1);(have hlt6 : (ws.take k).length ≤ 6 := by rw [List.length_take]; omega);generalize (ws.take k).foldl wput (C.put lr n2 1) = lk at hs HK hlen;generalize ws[k] = x at hr HX HK;obtain ⟨xk, xi, xb, xt⟩ := x;have hx1 := HX.out.1;have hx2 := HX.out.2.1;have hx3 := HX.out.2.2;simp only at hx1 hx2 hx3;have hpl := puttext_len lk xk;(have hsz : (⟨xk.toArray⟩ : ByteArray).size ≤ 9223372036854775807 := by simpa [ByteArray.size] using hx1);(have hst : (⟨xt.toArray⟩ : ByteArray).size ≤ 9223372036854775807 := by simpa [ByteArray.size] using hx3)
     go_upto_region 12 with fail
     refine wp_region_lit ?_;have ey : Below wr.heap.size wr wr := Below.refl _ _
     iterate 27 (first | with_reducible refine isLoad (ty := 163) rfl ?_ | go_step)
     refine wpList_load_mid rfl 163 _ rfl (bo) (off + k * 4) rfl (encW (xk, xi, xb, xt)) _ (rangeB hr ee hbo) Tryz.underlying163 rfl sizeWr ?_;have e0s := ee.size;(iterate 3 go_step);have lZt := (Array.getElem?_eq_some_iff.1 Zt).1;have Zt := hpA Zt (.cells #[.string ⟨#[]⟩, .int .i64 0, .int .u64 0, .string ⟨#[]⟩] 163);have ee := ee.alloc ee.size (.cells #[.string ⟨#[]⟩, .int .i64 0, .int .u64 0, .string ⟨#[]⟩] 163);have ey := ey.alloc ey.size (.cells #[.string ⟨#[]⟩, .int .i64 0, .int .u64 0, .string ⟨#[]⟩] 163);have Zi := hpN wr (.cells #[.string ⟨#[]⟩, .int .i64 0, .int .u64 0, .string ⟨#[]⟩] 163) rfl;generalize wr.alloc (.cells #[.string ⟨#[]⟩, .int .i64 0, .int .u64 0, .string ⟨#[]⟩] 163) = z22 at Zt Zi ee ey ⊢
     iterate 27 (first | with_reducible refine isStore (ty := 163) rfl ?_ | go_step)
     refine wpList_store_row rfl 163 _ _ rfl (wr.heap.size) (encW (xk, xi, xb, xt)).toArray rfl rfl 163 _ Zi sizeWr (by rfl) (encW_one _) ?_;have N_ := setRow_heap z22 (wr.heap.size) _ (encW (xk, xi, xb, xt)).toArray _ _ Zi;have ee := belowSet (cs := (encW (xk, xi, xb, xt)).toArray) ee Zi (by omega);have ey := belowSet (cs := (encW (xk, xi, xb, xt)).toArray) ey Zi (by omega);have Zt := hpR Zt (g' := wr.heap.size) (by omega) (encW (xk, xi, xb, xt)).toArray;clear Zi;have Zi := N_;clear N_;generalize z22.setRow (wr.heap.size) (encW (xk, xi, xb, xt)).toArray = z23 at Zt Zi ee ey ⊢
     go_upto_region 13 with fail
     have Zt : z23.drew.heap[w.heap.size]? = some (.cells [.int .i64 s, .int .i64 q, .slice A1 n1 c1, .slice (some ⟨bo, off, none⟩) n2 c2].toArray 30) := Zt;have Zi : z23.drew.heap[wr.heap.size]? = some (.cells (encW (xk, xi, xb, xt)).toArray 163) := Zi;have ee := belowDrewS ee;have ey := belowDrewS ey
     refine wp_region_held_drew (S := fun z' => z'.cell? ⟨wr.heap.size, 0, none⟩ = some (.string ⟨xk.toArray⟩) ∧ z'.rangeAt (wr.heap.size) 1 [.int .i64 xi, .int .u64 (xb : Int), .string ⟨xt.toArray⟩]) (by kernel_rfl) ⟨rowCell Zi 0 rfl, rowMid Zi 1 (by intro j v hj; match j, hj with | 0, hj => exact hj | 1, hj => exact hj | 2, hj => exact hj)⟩ (fun hH => ?_)
     clear hH;generalize z23.drew = z24 at Zt Zi  ee ey ⊢
     refine zU 0 (vv) rfl ⟨rowCell Zi 0 rfl, rowMid Zi 1 (by intro j v hj; match j, hj with | 0, hj => exact hj | 1, hj => exact hj | 2, hj => exact hj)⟩ ?_
     try simp only [Act.put, zL]
     refine zU 1 (.pointer (some ⟨wr.heap.size, 0, none⟩)) rfl ⟨rowCell Zi 0 rfl, rowMid Zi 1 (by intro j v hj; match j, hj with | 0, hj => exact hj | 1, hj => exact hj | 2, hj => exact hj)⟩ ?_
     try simp only [Act.put, zL]
     refine zT 2 (.string ⟨xk.toArray⟩) rfl (Or.inl ⟨by rfl, fun w_ hS_ => by (obtain ⟨h1_, h2_⟩ := hS_; go_simp)⟩) ⟨rowCell Zi 0 rfl, rowMid Zi 1 (by intro j v hj; match j, hj with | 0, hj => exact hj | 1, hj => exact hj | 2, hj => exact hj)⟩ ?_
     try simp only [Act.put, zL]
     refine zU 4 (.pointer (some ⟨wr.heap.size, 1, none⟩)) rfl ⟨rowCell Zi 0 rfl, rowMid Zi 1 (by intro j v hj; match j, hj with | 0, hj => exact hj | 1, hj => exact hj | 2, hj => exact hj)⟩ ?_
     try simp only [Act.put, zL]
     refine zT 5 (.agg ([.int .i64 xi, .int .u64 (xb : Int), .string ⟨xt.toArray⟩]).toArray) rfl (yieldsIf_load_mid (by rfl) 77 _ rfl (wr.heap.size) (1) rfl ([.int .i64 xi, .int .u64 (xb : Int), .string ⟨xt.toArray⟩]) _ (fun _ h => h.2) Tryz.underlying77 rfl sizeVl) ⟨rowCell Zi 0 rfl, rowMid Zi 1 (by intro j v hj; match j, hj with | 0, hj => exact hj | 1, hj => exact hj | 2, hj => exact hj)⟩ ?_
     (try simp only [Act.put, zL]);refine wrd 3 fun K hK => ?_;rw [if_pos (by rfl)]
     go_simp
     have sz_ := ee.size
     go_wp2_with (go_at_call 111; refine (puttext_s (hs.belowM ey (Nat.le_refl _)) (by omega) (by have := ey.size; omega) _ hsz).mono ?_; rintro e z25 ⟨v1, rfl, g1, t, fr⟩)
     have fr := Fresh.mono fr sz_;clear sz_;have Zt := hpB Zt t;have Zi := hpB Zi t;have ee := bU ee t;have ey := bU ey t;clear t
     refine hK.out _ _ ⟨rowCell Zi 0 rfl, rowMid Zi 1 (by intro j v hj; match j, hj with | 0, hj => exact hj | 1, hj => exact hj | 2, hj => exact hj)⟩ (fun hH => ?_)
     clear hK K hH;(try simp only [Act.put, zL]);refine wrd 6 fun K hK => ?_;rw [if_pos (by rfl)]
     go_simp
     have sz_ := ee.size
     go_wp2_with (go_at_call 112; refine (vput_s g1 (by omega) (Nat.le_refl _) xi xb _ hx2 hst (HT.out.below ee)).mono ?_; rintro e z26 ⟨v2, rfl, hs, t, fr⟩)
     have fr := Fresh.mono fr sz_;clear sz_;have Zt := hpB Zt t;have Zi := hpB Zi t;have ee := bU ee t;have ey := bU ey t;clear t
     refine hK.out _ _ ⟨rowCell Zi 0 rfl, rowMid Zi 1 (by intro j v hj; match j, hj with | 0, hj => exact hj | 1, hj => exact hj | 2, hj => exact hj)⟩ (fun hH => ?_)
     clear hK K hH;(try simp only [Act.put, zL])
     refine zU 7 (v2) rfl ⟨rowCell Zi 0 rfl, rowMid Zi 1 (by intro j v hj; match j, hj with | 0, hj => exact hj | 1, hj => exact hj | 2, hj => exact hj)⟩ ?_
     (try simp only [Act.put, zL]);refine wpAnyH_done (by kernel_rfl) ?_ _
     go_wp2_with fail
     go_roundw
     case rel => exact ⟨k + 1, _, by omega, by go_num, rfl, HK.out ▸ hs, Zt, fr, ee⟩
     case measure => simp [intOf]; omega
    ·(obtain rfl : n2 = k := by omega);(have htk : ws.take n2 = ws := by rw [HN2.out]; exact List.take_length);rw [htk] at hs;rw [HLR.out] at hs;clear htk hlt
     go_wp2_with fail
     go_ret
     exact ⟨_, rfl, hs, ee, fr.out⟩
theorem tput_s {w : World} {B : Nat} {v : Value} {l : List UInt8} (h : SlB w B v l) (hl : l.length ≤ 4294967296) (hB : B ≤ w.heap.size) (s q : Int) (rs : List Rd1) (ws : List Wr1) (A1 : Option Addr) (c1 : Nat) (A2 : Option Addr) (c2 : Nat) (ok : TxOk w w.heap.size rs ws A1 c1 A2 c2) (hT : Tabs w) : Calls Tryz.prog 86 #[v, .agg #[.int .i64 s, .int .i64 q, .slice A1 rs.length c1, .slice A2 ws.length c2]] w (GotB w (tput l s q rs ws)) := by
 unfold tput
 cases hf : formed s q rs ws with
 | false => exact tput_no h hl hB s q rs ws A1 c1 A2 c2 ok hT hf
 | true => exact tput_yes h hl hB s q rs ws A1 c1 A2 c2 ok hT hf
end Go.Proofs.YthclniimhpmeoaaGreatDoor
