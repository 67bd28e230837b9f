import Derived.Test.YthclniimhpmeoaaGreatDoorMrM46
set_option maxHeartbeats 25600000
set_option linter.unusedSimpArgs false
set_option linter.unusedVariables false
namespace Go.Proofs.YthclniimhpmeoaaGreatDoor
set_option maxRecDepth 20000
open Go.RowKit T
theorem small_zero (k : Int) : (Ms.zero k).small := ⟨Nat.zero_le _, Nat.zero_le _, Nat.zero_le _⟩
theorem toList_len (b : ByteArray) : b.data.toList.length = b.size := by
 show b.data.toList.length = b.data.size;exact Array.length_toList
theorem put_ky (m o : Ms) (c : Nat) (h : c ≠ 75) : (m.put o c).ky = o.ky := by
 by_cases hB : c = 66
 ·subst hB;rfl
 by_cases hS : c = 83
 ·subst hS;rfl
 by_cases hH : c = 72
 ·subst hH;show (if m.ha then { o with ha := m.ha, vr := m.vr, vn := m.vn, c := m.c } else { o with ha := m.ha } : Ms).ky = _
  split <;> rfl
 by_cases hC : c = 67
 ·subst hC;rfl
 by_cases hT : c = 84
 ·subst hT;rfl
 by_cases hI : c = 73
 ·subst hI;rfl
 by_cases hG : c = 71
 ·subst hG;rfl
 by_cases hP : c = 80
 ·subst hP;rfl
 by_cases hY : c = 89
 ·subst hY;rfl
 by_cases hN : c = 78
 ·subst hN;rfl
 by_cases hV : c = 86
 ·subst hV;rfl
 by_cases hX : c = 88
 ·subst hX;rfl
 by_cases hE : c = 69
 ·subst hE;rfl
 by_cases hD : c = 68
 ·subst hD;rfl
 rw [put_none m o c hB hS hH hC hT hI hG hP hY hN h hV hX hE hD]
theorem fold_ky (m : Ms) : ∀ (fs : List UInt8), (75 : UInt8) ∉ fs → ∀ o : Ms, (fs.foldl (fun o l => m.put o l.toNat) o).ky = o.ky
 | [], _, _ => rfl
 | c :: fs, h, o => by
   rw [List.foldl_cons, fold_ky m fs (fun q => h (List.mem_cons_of_mem _ q)), put_ky m o c.toNat (fun q => h (by rw [← show c = 75 from UInt8.toNat_inj.1 q]; exact List.mem_cons_self))]
theorem vformed_len {k : Int} {b : Nat} {t : List UInt8} (h : V.formed k b t = true) : t.length ≤ 40 := by
 unfold V.formed at h
 split at h
 ·rw [(of_decide_eq_true h).2]; exact Nat.zero_le _
 split at h
 ·rw [(of_decide_eq_true h).1]; exact Nat.zero_le _
 split at h
 ·simp only [Bool.and_eq_true, decide_eq_true_eq] at h; exact h.1.2
 ·cases h
theorem small_formed {m : Ms} (h : m.formed = true) : m.small := by
 have S := soundOf h;refine ⟨?_, ?_, by have := S.dt; omega⟩
 ·by_cases q : (75 : UInt8) ∈ fieldsOf m.kd
  ·have := S.k q; rw [toList_len] at this; omega
  ·have e := (likeOf S.only).ky;unfold T.Ms.only at e;rw [fold_ky m _ q] at e;rw [← e];exact Nat.zero_le _
 ·have := vformed_len S.x;rw [toList_len] at this; omega
theorem small_read {l : List UInt8} {n : Ms} (lk : Like n (bif rok l then rdm l else Ms.zero 0)) : n.small := by
 cases h : rok l with
 | true =>
   rw [h] at lk;have lk : Like n (rdm l) := lk;unfold rok at h;simp only [Bool.and_eq_true] at h;exact small_formed (by rw [lk.formed]; exact h.1)
 | false =>
   rw [h] at lk;have lk : Like n (Ms.zero 0) := lk;exact smallOf lk (small_zero 0)
theorem mreads_any (A : Option Addr) (cp : Nat) (l : List UInt8) (w : World) (hb : SlB w w.heap.size (.slice A l.length cp) l) (hlc : l.length ≤ cp) (hT : Tabs w) :
 Calls Tryz.prog 5 #[.slice A l.length cp] w fun e w' => e = .returned (.bool true) ∧ Below w.heap.size w w' := by
 have ee : Below w.heap.size w w := Below.refl _ _
 go_enter Tryz.func5, Tryz.ntmps5
 refine wp_seq_k fun K1 hK1 => wp_region_lit ?_;(with_reducible refine wv (.bool false) ?_);(try simp only [zP]);refine wpList_nil (hK1 _ _ (wp_seq_k fun K2 hK2 => wp_seq_k fun K3 hK3 => wp_region_lit ?_));(with_reducible refine wcR (awake10_any w (hT.below ee)) fun z1 t => ?_);have ee := bU ee t;(try simp only [zP]);(iterate 2 (with_reducible refine wv (.bool false) ?_));(with_reducible refine wv (.slice A l.length cp) (wv (.int .i64 (l.length : Int)) ?_));(try simp only [zP]);obtain ⟨b4, hb4⟩ := exB (decide ((l.length : Int) > 70000));(with_reducible refine wb (.bool b4) (.int .i64 (l.length : Int)) (.int .i64 70000) 3 (run_gtrI hb4) (wv (.bool b4) ?_));(try simp only [zP]);refine wpList_nil (hK3 _ _ ?_);cases b4;rotate_left
 ·have pb4 : (l.length : Int) > 70000 := dT hb4;refine wdT (wp_seq_k fun K10 hK10 => wp_region_lit ?_);(with_reducible refine wcR (awake10_any z1 (hT.below ee)) fun z2 t => ?_);have ee := bU ee t;(try simp only [zP]);(with_reducible refine wv (.bool true) ?_);(try simp only [zP]);refine wpList_nil (hK10 _ _ (wp_ret (then_ret ?_)));exact bodyPost_ret (v := .bool true) (by kernel_rfl) rfl ⟨rfl, ee⟩
 have pb4 := dF hb4;refine wdF (wp_skip (hK2 _ _ (wp_seq_k fun K5 hK5 => wp_region_lit ?_)));(with_reducible refine wv (.slice A l.length cp) ?_;(try simp only [zP]);refine wc 25 #[.slice A l.length cp] (mread_any z1 ((hb.belowM ee (Nat.le_refl _)).more ee.size) (by omega) (hT.below ee)) ?_);rintro e z2 ⟨⟨n, x3, rfl, okn, hx3, lk3⟩, t⟩;refine ⟨_, rfl, ?_⟩;have hsn := small_read lk3;have ee := bU ee t;have en := Below.refl z2.heap.size z2;(try simp only [zP]);(with_reducible refine wv (.tuple #[.agg (n.cells).toArray, .int .i64 x3]) (wv (.agg (n.cells).toArray) (wv (.int .i64 x3) (wwP (.cells #[.int .i64 0, .int .u32 0, .int .i64 0, .int .i64 0, .bool false, .int .u32 0, .int .i64 0, .int .i64 0, .int .i64 0, .int .i64 0, .slice none 0 0, .slice none 0 0, .int .i64 0, .int .i64 0, .int .i64 0, .int .u64 0, .bool false, .int .i64 0, .int .i64 0, .slice none 0 0, .slice none 0 0, .int .i64 0, .int .i64 0, .int .i64 0, .int .u64 0, .bool false, .int .i64 0, .string ByteArray.empty, .int .u64 0, .int .i64 0, .int .u64 0, .string ByteArray.empty, .int .i64 0, .slice none 0 0] 79) fun g6 z3 hq_ t Zv3 => ?_))));have hB_g6 := szG hq_ ee;have hB_g6_en := szG hq_ en;have ee := bU ee t;have en := bU en t;(try simp only [zP]);(with_reducible refine wsR 79 (g6) (n.cells).toArray Zv3 fun z4 hz_ g_ N_ => ?_);have ee := bG ee g_;have en := bG en g_;have Zv3 := N_;(try simp only [zP]);(with_reducible refine wv (.int .i64 x3) ?_);(try simp only [zP]);refine wpList_nil (hK5 _ _ (wp_seq_k fun K7 hK7 => wp_region_lit ?_));(with_reducible refine wv (.slice A l.length cp) ?_;(try simp only [zP]);refine wc 26 #[.slice A l.length cp] (rmread_any A cp l z4 ((hb.belowM ee (Nat.le_refl _)).more ee.size) (by omega) hlc) ?_);rintro e z5 ⟨⟨m, x4, rfl, okm, hx4, lk4⟩, t⟩;refine ⟨_, rfl, ?_⟩;obtain ⟨hbo, hlnm⟩ := both_readM okn okm lk3 lk4;(have hx34 : x3 = x4 := by rw [hx3, hx4, hbo]);have Zv3 := hpB Zv3 t;have ee := bU ee t;have en := bU en t;have em := Below.refl z5.heap.size z5;(try simp only [zP]);(with_reducible refine wv (.tuple #[.agg (m.cells).toArray, .int .i64 x4]) (wv (.agg (m.cells).toArray) (wv (.int .i64 x4) (wwP (.cells #[.int .i64 0, .int .u32 0, .int .i64 0, .int .i64 0, .bool false, .int .u32 0, .int .i64 0, .int .i64 0, .int .i64 0, .int .i64 0, .slice none 0 0, .slice none 0 0, .int .i64 0, .int .i64 0, .int .i64 0, .int .u64 0, .bool false, .int .i64 0, .int .i64 0, .slice none 0 0, .slice none 0 0, .int .i64 0, .int .i64 0, .int .i64 0, .int .u64 0, .bool false, .int .i64 0, .string ByteArray.empty, .int .u64 0, .int .i64 0, .int .u64 0, .string ByteArray.empty, .int .i64 0, .slice none 0 0] 83) fun g8 z6 hq_ t Zv5 => ?_))));have n_g8_Zv3 := ltG hq_ Zv3;have hB_g8 := szG hq_ ee;have hB_g8_en := szG hq_ en;have hB_g8_em := szG hq_ em;have Zv3 := hpB Zv3 t;have ee := bU ee t;have en := bU en t;have em := bU em t;(try simp only [zP]);(with_reducible refine wsR 83 (g8) (m.cells).toArray Zv5 fun z7 hz_ g_ N_ => ?_);have ee := bG ee g_;have en := bG en g_;have em := bG em g_;have Zv3 := hG Zv3 g_;have Zv5 := N_;(try simp only [zP]);(with_reducible refine wv (.int .i64 x4) ?_);(try simp only [zP]);refine wpList_nil (hK7 _ _ (wp_seq_k fun K9 hK9 => ?_));(with_reducible refine any_begin (fun z' => z'.heap[g6]? = some (.cells (n.cells).toArray 79 (0, 0)) ∧ z'.heap[g8]? = some (.cells (m.cells).toArray 83 (0, 0))) 10 (bm 10 0) ⟨(hD Zv3), (hD Zv5)⟩ ?_ ?_)
 ·intro c_ a_ d_ v_ w_ h_; cases d_ <;> exact h_
 obtain ⟨z8, hz_⟩ : ∃ z_ : World, z_ = z7.drew := ⟨_, rfl⟩;rw [← hz_];have t := drB hz_;have Zv3 := hpB Zv3 t;have Zv5 := hpB Zv5 t;have ee := bU ee t;have en := bU en t;have em := bU em t;(with_reducible refine ha 0 (some 25) (.int .i64 x3) (bm 10 1) (fun w_ _ => by kernel_rfl) ⟨Zv3, Zv5⟩ ?_;(try simp only [zP]);refine ha 1 (some 26) (.int .i64 x4) (bm 10 3) (fun w_ _ => by kernel_rfl) ⟨Zv3, Zv5⟩ ?_;(try simp only [zP]);refine ha 2 (some 27) (.bool true) (bm 10 7) (fun w_ _ => runBin (.bool true) (.int .i64 x3) (.int .i64 x4) 40 (run_eqlI ((decide_eq_true hx34) : (decide (x3 = x4)) = true))) ⟨Zv3, Zv5⟩ ?_;(try simp only [zP]);refine ha 3 (some 28) (.bool true) (bm 10 15) (fun w_ _ => by kernel_rfl) ⟨Zv3, Zv5⟩ ?_;(try simp only [zP]);refine hg_ 4 (some 29) (g6) (0) (n.cells) (bm 10 31) (fun _ h_ => (rowAt h_.1)) Tryz.underlying79 ⟨Zv3, Zv5⟩ ?_;(try simp only [zP]);refine hg_ 6 (some 31) (g8) (0) (m.cells) (bm 10 95) (fun _ h_ => (rowAt h_.2)) Tryz.underlying83 ⟨Zv3, Zv5⟩ ?_;(try simp only [zP]);refine any1 5 (st_R  5 (some 30) (bm 10 127) (mplain_any n z8) fun z9 t => ?_));have Zv3 := hpB Zv3 t;have Zv5 := hpB Zv5 t;have ee := bU ee t;have en := bU en t;have em := bU em t;refine ⟨⟨Zv3, Zv5⟩, ?_⟩;(try simp only [zP]);(with_reducible refine any1 7 (st_f 7 (some 32) 27 #[.agg (n.cells).toArray, .agg (m.cells).toArray] (bm 10 255) (rmsame_t n m z9 z9.heap.size (Nat.le_refl _) ((okn.below en (Nat.le_refl _)).more en.size) ((okm.below em (Nat.le_refl _)).more em.size) hsn hlnm.symm) ?_));rintro e z10 ⟨rfl, t⟩;refine ⟨_, rfl, ?_⟩;have Zv3 := hpB Zv3 t;have Zv5 := hpB Zv5 t;have ee := bU ee t;refine ⟨⟨Zv3, Zv5⟩, ?_⟩;(try simp only [zP]);(with_reducible refine ha 8 (some 33) (.bool true) (bm 10 511) (fun w_ _ => by kernel_rfl) ⟨Zv3, Zv5⟩ ?_;(try simp only [zP]);refine ha 9 (some 2) (.bool true) (bm 10 1023) (fun w_ _ => by kernel_rfl) ⟨Zv3, Zv5⟩ ?_;(try simp only [zP]);refine any_end ?_);refine hK9 _ _ (wp_ret ?_);exact bodyPost_ret (v := .bool true) (by kernel_rfl) rfl ⟨rfl, ee⟩
theorem messageReads_walk (W : World) (hT : Tabs W) (v0 : Value) (h0 : Arg W 34 v0) :
 Calls Tryz.prog 5 #[v0] W fun e W' => e = .returned (.bool true) ∧ Below W.heap.size W W' := by
 obtain ⟨A, c, l, rfl, hc, hm, hA, hr⟩ := h0.bytes Tryz.underlying34;exact mreads_any A c l W ⟨A, c, rfl, hc, hm, hA, hr⟩ hc hT
end Go.Proofs.YthclniimhpmeoaaGreatDoor
