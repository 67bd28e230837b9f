/- The walk of CommandBytes. Conditions: what lies, lies below; the tables lie; sizes. (Printed by gen_tio.py.) -/
import Derived.Test.YtkfnepmiigkdfaaDoorSb
import Derived.Test.YtkfnepmiigkdfaaDoorTxnB
import Derived.Test.YtkfnepmiigkdfaaDoorTxnF
import Derived.Test.YtkfnepmiigkdfaaDoorRdLaws
import Derived.Test.YtkfnepmiigkdfaaDoorTxnH
import Derived.Test.YtkfnepmiigkdfaaDoorTxnI
import Derived.Test.YtkfnepmiigkdfaaDoorTxnE
import Derived.Test.YtkfnepmiigkdfaaDoorCodeReads
import Derived.Test.YtkfnepmiigkdfaaDoorCodeWalks
import Derived.Test.YtkfnepmiigkdfaaDoorTxn
import Derived.Test.YtkfnepmiigkdfaaDoorCm
import Derived.Test.YtkfnepmiigkdfaaDoorTakeC
import Derived.Test.YtkfnepmiigkdfaaDoorTioC
import Derived.Test.YtkfnepmiigkdfaaDoorTxnD
import Derived.Test.YtkfnepmiigkdfaaDoorRTakeC
import Derived.Test.YtkfnepmiigkdfaaDoorTioR
namespace Go.Proofs.YtkfnepmiigkdfaaDoor
set_option maxRecDepth 20000
open Go.RowKit T
set_option linter.unusedSimpArgs false
set_option linter.unusedVariables false

set_option maxHeartbeats 3200000 in
theorem putid_no {w : World} {B : Nat} {v : Value} {l : List UInt8} (h : SlB w B v l) (hl : l.length ≤ 4294967296) (hB : B ≤ w.heap.size) (s q : Int) (hf : idb s q = false) : Calls Tryd.prog 57 #[v, .agg #[.int .i64 s, .int .i64 q]] w (GotB w l) := by
  have HI := Lib.hid (fun z => tid_any s q z)
  rw [hf] at HI
  clear hf
  obtain ⟨w0, hw0⟩ : ∃ w0, w0 = w.alloc (.cells [.int .i64 s, .int .i64 q].toArray 30) := ⟨_, rfl⟩
  have ee : Below w.heap.size w w0 := by rw [hw0]; exact (Below.refl _ _).alloc (Nat.le_refl _) _
  have Zt : w0.heap[w.heap.size]? = some (.cells [.int .i64 s, .int .i64 q].toArray 30) := by rw [hw0]; exact hpN _ _ rfl
  have H := Lib.hid h
  clear h
  go_enter Tryd.func57, Tryd.ntmps57
  go_upto_region 1 with fail
  rw [← hw0]
  clear hw0
  have c0 := rowCell Zt 0 rfl
  have c1 := rowCell Zt 1 rfl
  go_wp2_with fail
  refine (HI.out w0).mono ?_
  rintro e z1 ⟨rfl, t⟩
  have Zt := hpB Zt t
  have ee := ee.trans (t.mono ee.size)
  clear t
  go_wp2_with fail
  have sz_ := ee.size
  refine (clone_s (H.out.belowM ee hB) (by omega) (Nat.le_trans hB ee.size)).mono ?_
  rintro e z2 ⟨v2, rfl, h2, t, fr⟩
  have fr := Fresh.mono fr sz_
  clear sz_
  have Zt := hpB Zt t
  have ee := ee.trans (t.mono ee.size)
  clear t
  go_wp2_with fail
  go_ret
  exact ⟨v2, rfl, h2, ee, fr⟩
set_option maxHeartbeats 3200000 in
theorem putid_yes {w : World} {B : Nat} {v : Value} {l : List UInt8} (h : SlB w B v l) (hl : l.length ≤ 4294967296) (hB : B ≤ w.heap.size) (s q : Nat) (h1 : 1 ≤ s) (h2 : s ≤ 8) (h3 : 1 ≤ q) (h4 : q ≤ 1048576) : Calls Tryd.prog 57 #[v, .agg #[.int .i64 (s : Int), .int .i64 (q : Int)]] w (GotB w (C.put (C.put l s 1) q 4)) := by
  have HI := Lib.hid (fun z => tid_any s q z)
  rw [show idb (s : Int) (q : Int) = true from decide_eq_true (by omega)] at HI
  have HL1 := put_len2 l s 1
  have k1 : IntKind.u64.wrap (s : Int) = (s : Int) := wrapOf (by omega)
  have k2 : IntKind.u64.wrap (q : Int) = (q : Int) := wrapOf (by omega)
  obtain ⟨w0, hw0⟩ : ∃ w0, w0 = w.alloc (.cells [.int .i64 (s : Int), .int .i64 (q : Int)].toArray 30) := ⟨_, rfl⟩
  have ee : Below w.heap.size w w0 := by rw [hw0]; exact (Below.refl _ _).alloc (Nat.le_refl _) _
  have Zt : w0.heap[w.heap.size]? = some (.cells [.int .i64 (s : Int), .int .i64 (q : Int)].toArray 30) := by rw [hw0]; exact hpN _ _ rfl
  have H := Lib.hid h
  clear h
  go_enter Tryd.func57, Tryd.ntmps57
  go_upto_region 1 with fail
  rw [← hw0]
  clear hw0
  have c0 := rowCell Zt 0 rfl
  have c1 := rowCell Zt 1 rfl
  go_wp2_with fail
  refine (HI.out w0).mono ?_
  rintro e z1 ⟨rfl, t⟩
  have Zt := hpB Zt t
  have ee := ee.trans (t.mono ee.size)
  clear t
  clear c0 c1
  go_upto_region 3 with fail
  have Zt : z1.drew.heap[w.heap.size]? = some (.cells [.int .i64 (s : Int), .int .i64 (q : Int)].toArray 30) := Zt
  have ee := belowDrewS ee
  refine wp_region_held_drew (S := fun z' => z'.cell? ⟨w.heap.size, 0, none⟩ = some (.int .i64 (s : Int)) ∧ z'.cell? ⟨w.heap.size, 1, none⟩ = some (.int .i64 (q : Int))) (by kernel_rfl) ⟨rowCell Zt 0 rfl, rowCell Zt 1 rfl⟩ (fun hH => ?_)
  clear hH
  generalize z1.drew = z2 at Zt  ee ⊢
  refine wpAnyH_take (i := 0) (v := v) rfl (by kernel_rfl) (by kernel_rfl) (by kernel_rfl) (fun _ _ _ h => h) (Or.inl ⟨by rfl, fun w_ hS_ => by (first | (go_simp; done) | (go_simp; rfl))⟩) ⟨rowCell Zt 0 rfl, rowCell Zt 1 rfl⟩ ?_
  try simp only [Act.put, List.getElem_toArray, List.getElem_cons_zero, List.getElem_cons_succ, List.setIfInBounds_toArray, List.set_cons_zero, List.set_cons_succ]
  refine wpAnyH_take (i := 1) (v := .pointer (some ⟨w.heap.size, 0, none⟩)) rfl (by kernel_rfl) (by kernel_rfl) (by kernel_rfl) (fun _ _ _ h => h) (Or.inl ⟨by rfl, fun w_ hS_ => by (first | (go_simp; done) | (go_simp; rfl))⟩) ⟨rowCell Zt 0 rfl, rowCell Zt 1 rfl⟩ ?_
  try simp only [Act.put, List.getElem_toArray, List.getElem_cons_zero, List.getElem_cons_succ, List.setIfInBounds_toArray, List.set_cons_zero, List.set_cons_succ]
  refine wpAnyH_take (i := 2) (v := .int .i64 (s : Int)) rfl (by kernel_rfl) (by kernel_rfl) (by kernel_rfl) (fun _ _ _ h => h) (Or.inl ⟨by rfl, fun w_ hS_ => by (obtain ⟨h1_, h2_⟩ := hS_; go_simp)⟩) ⟨rowCell Zt 0 rfl, rowCell Zt 1 rfl⟩ ?_
  try simp only [Act.put, List.getElem_toArray, List.getElem_cons_zero, List.getElem_cons_succ, List.setIfInBounds_toArray, List.set_cons_zero, List.set_cons_succ]
  refine wpAnyH_take (i := 3) (v := .int .u64 (s : Int)) rfl (by kernel_rfl) (by kernel_rfl) (by kernel_rfl) (fun _ _ _ h => h) (Or.inl ⟨by rfl, fun w_ hS_ => by (go_simp; first | done | (rw [k1]))⟩) ⟨rowCell Zt 0 rfl, rowCell Zt 1 rfl⟩ ?_
  try simp only [Act.put, List.getElem_toArray, List.getElem_cons_zero, List.getElem_cons_succ, List.setIfInBounds_toArray, List.set_cons_zero, List.set_cons_succ]
  refine wpAnyH_take (i := 5) (v := .pointer (some ⟨w.heap.size, 1, none⟩)) rfl (by kernel_rfl) (by kernel_rfl) (by kernel_rfl) (fun _ _ _ h => h) (Or.inl ⟨by rfl, fun w_ hS_ => by (first | (go_simp; done) | (go_simp; rfl))⟩) ⟨rowCell Zt 0 rfl, rowCell Zt 1 rfl⟩ ?_
  try simp only [Act.put, List.getElem_toArray, List.getElem_cons_zero, List.getElem_cons_succ, List.setIfInBounds_toArray, List.set_cons_zero, List.set_cons_succ]
  refine wpAnyH_take (i := 6) (v := .int .i64 (q : Int)) rfl (by kernel_rfl) (by kernel_rfl) (by kernel_rfl) (fun _ _ _ h => h) (Or.inl ⟨by rfl, fun w_ hS_ => by (obtain ⟨h1_, h2_⟩ := hS_; go_simp)⟩) ⟨rowCell Zt 0 rfl, rowCell Zt 1 rfl⟩ ?_
  try simp only [Act.put, List.getElem_toArray, List.getElem_cons_zero, List.getElem_cons_succ, List.setIfInBounds_toArray, List.set_cons_zero, List.set_cons_succ]
  refine wpAnyH_take (i := 7) (v := .int .u64 (q : Int)) rfl (by kernel_rfl) (by kernel_rfl) (by kernel_rfl) (fun _ _ _ h => h) (Or.inl ⟨by rfl, fun w_ hS_ => by (go_simp; first | done | (rw [k2]))⟩) ⟨rowCell Zt 0 rfl, rowCell Zt 1 rfl⟩ ?_
  try simp only [Act.put, List.getElem_toArray, List.getElem_cons_zero, List.getElem_cons_succ, List.setIfInBounds_toArray, List.set_cons_zero, List.set_cons_succ]
  refine wpAnyH_ready (rs := [4]) (by kernel_rfl) (by simp) ?_
  refine AllReadyH.cons rfl (fun K hK => ?_) AllReadyH.nil
  rw [if_pos (by rfl)]
  go_simp
  have sz_ := ee.size
  go_wp2_with (go_at_call 55; refine (put_s (H.out.belowM ee hB) (by omega) (Nat.le_trans hB ee.size) s (by omega) 1).mono ?_; rintro e z3 ⟨v1, rfl, g1, t, fr⟩)
  have fr := Fresh.mono fr sz_
  clear sz_
  have Zt := hpB Zt t
  have ee := ee.trans (t.mono ee.size)
  clear t
  refine hK.out _ _ ⟨rowCell Zt 0 rfl, rowCell Zt 1 rfl⟩ (fun hH => ?_)
  clear hK K hH
  try simp only [Act.put, List.getElem_toArray, List.getElem_cons_zero, List.getElem_cons_succ, List.setIfInBounds_toArray, List.set_cons_zero, List.set_cons_succ]
  refine wpAnyH_ready (rs := [8]) (by kernel_rfl) (by simp) ?_
  refine AllReadyH.cons rfl (fun K hK => ?_) AllReadyH.nil
  rw [if_pos (by rfl)]
  go_simp
  have sz_ := ee.size
  go_wp2_with (go_at_call 55; refine (put_s g1 (by omega) (Nat.le_refl _) q (by omega) 4).mono ?_; rintro e z4 ⟨v2, rfl, g2, t, fr⟩)
  have fr := Fresh.mono fr sz_
  clear sz_
  have Zt := hpB Zt t
  have ee := ee.trans (t.mono ee.size)
  clear t
  refine hK.out _ _ ⟨rowCell Zt 0 rfl, rowCell Zt 1 rfl⟩ (fun hH => ?_)
  clear hK K hH
  try simp only [Act.put, List.getElem_toArray, List.getElem_cons_zero, List.getElem_cons_succ, List.setIfInBounds_toArray, List.set_cons_zero, List.set_cons_succ]
  refine wpAnyH_take (i := 9) (v := v2) rfl (by kernel_rfl) (by kernel_rfl) (by kernel_rfl) (fun _ _ _ h => h) (Or.inl ⟨by rfl, fun w_ hS_ => by (first | (go_simp; done) | (go_simp; rfl))⟩) ⟨rowCell Zt 0 rfl, rowCell Zt 1 rfl⟩ ?_
  try simp only [Act.put, List.getElem_toArray, List.getElem_cons_zero, List.getElem_cons_succ, List.setIfInBounds_toArray, List.set_cons_zero, List.set_cons_succ]
  refine wpAnyH_done (by kernel_rfl) ?_ _
  go_wp2_with fail
  go_ret
  exact ⟨v2, rfl, g2, ee, fr⟩
theorem putid_s {w : World} {B : Nat} {v : Value} {l : List UInt8} (h : SlB w B v l) (hl : l.length ≤ 4294967296) (hB : B ≤ w.heap.size) (s q : Int) : Calls Tryd.prog 57 #[v, .agg #[.int .i64 s, .int .i64 q]] w (GotB w (idput l s q)) := by
  cases hf : idb s q with
  | false => rw [show idput l s q = l by unfold idput; rw [hf]; rfl]; exact putid_no h hl hB s q hf
  | true =>
    obtain ⟨a, b, rfl, rfl, h1, h2, h3, h4⟩ := idb_nat hf
    rw [show idput l (a : Int) (b : Int) = C.put (C.put l a 1) b 4 by unfold idput; rw [hf]; rfl]
    exact putid_yes h hl hB a b h1 h2 h3 h4
set_option maxHeartbeats 3200000 in
theorem tput_no {w : World} {B : Nat} {v : Value} {l : List UInt8} (h : SlB w B v l) (hl : l.length ≤ 4294967296) (hB : B ≤ w.heap.size) (s q : Int) (rs : List Rd1) (ws : List Wr1) (A1 : Option Addr) (c1 : Nat) (A2 : Option Addr) (c2 : Nat) (ok : TxOk w w.heap.size rs ws A1 c1 A2 c2) (hT : Tabs w) (hf : formed s q rs ws = false) : Calls Tryd.prog 56 #[v, .agg #[.int .i64 s, .int .i64 q, .slice A1 rs.length c1, .slice A2 ws.length c2]] w (GotB w l) := by
  have HR := Lib.hid ok.r
  have HW := Lib.hid ok.w
  have HRO := Lib.hid ok.ro
  have HWO := Lib.hid ok.wo
  have q1 := ok.rc
  have q2 := ok.wc
  have q3 := ok.rm
  have q4 := ok.wm
  unfold maxLen at q3 q4
  have HT := Lib.hid hT
  have HF := Lib.hid (fun z (hz : Below w.heap.size w z) => tformed_any s q rs ws A1 c1 A2 c2 z w.heap.size hz.size (ok.below hz (Nat.le_refl _)) (hT.below hz))
  rw [hf] at HF
  clear ok hT
  obtain ⟨n1, hn1⟩ : ∃ n, n = rs.length := ⟨_, rfl⟩
  obtain ⟨n2, hn2⟩ : ∃ n, n = ws.length := ⟨_, rfl⟩
  have HN1 := Lib.hid hn1
  have HN2 := Lib.hid hn2
  rw [← hn1, ← hn2] at HF ⊢
  rw [← hn1] at q1
  rw [← hn2] at q2
  clear hn1 hn2
  clear hf
  obtain ⟨w0, hw0⟩ : ∃ w0, w0 = w.alloc (.cells [.int .i64 s, .int .i64 q, .slice A1 n1 c1, .slice A2 n2 c2].toArray 34) := ⟨_, rfl⟩
  have ee : Below w.heap.size w w0 := by rw [hw0]; exact (Below.refl _ _).alloc (Nat.le_refl _) _
  have Zt : w0.heap[w.heap.size]? = some (.cells [.int .i64 s, .int .i64 q, .slice A1 n1 c1, .slice A2 n2 c2].toArray 34) := by rw [hw0]; exact hpN _ _ rfl
  have H := Lib.hid h
  clear h
  go_enter Tryd.func56, Tryd.ntmps56
  go_upto_region 1 with fail
  rw [← hw0]
  clear hw0
  refine wp_region_lit ?_
  refine wpList_load_mid rfl 34 _ rfl (w.heap.size) 0 rfl [.int .i64 s, .int .i64 q, .slice A1 n1 c1, .slice A2 n2 c2] _ (rowAt Zt) Tryd.underlying34 rfl sizeTx ?_
  go_wp2_with fail
  refine (HF.out w0 ee).mono ?_
  rintro e z1 ⟨rfl, t⟩
  have Zt := hpB Zt t
  have ee := ee.trans (t.mono ee.size)
  clear t
  go_wp2_with fail
  have sz_ := ee.size
  refine (clone_s (H.out.belowM ee hB) (by omega) (Nat.le_trans hB ee.size)).mono ?_
  rintro e z2 ⟨v2, rfl, h2, t, fr⟩
  have fr := Fresh.mono fr sz_
  clear sz_
  have Zt := hpB Zt t
  have ee := ee.trans (t.mono ee.size)
  clear t
  go_wp2_with fail
  go_ret
  exact ⟨v2, rfl, h2, ee, fr⟩
set_option maxHeartbeats 6400000 in
theorem tput_yes {w : World} {B : Nat} {v : Value} {l : List UInt8} (h : SlB w B v l) (hl : l.length ≤ 4294967296) (hB : B ≤ w.heap.size) (s q : Int) (rs : List Rd1) (ws : List Wr1) (A1 : Option Addr) (c1 : Nat) (A2 : Option Addr) (c2 : Nat) (ok : TxOk w w.heap.size rs ws A1 c1 A2 c2) (hT : Tabs w) (hf : formed s q rs ws = true) : Calls Tryd.prog 56 #[v, .agg #[.int .i64 s, .int .i64 q, .slice A1 rs.length c1, .slice A2 ws.length c2]] w (GotB w (ws.foldl wput (C.put (rs.foldl rput (C.put (idput l s q) rs.length 1)) ws.length 1))) := by
  obtain ⟨hi, hr6, hw6⟩ := formed_few hf
  have HW6 := Lib.hid hw6
  have HR6 := Lib.hid hr6
  have HR := Lib.hid ok.r
  have HW := Lib.hid ok.w
  have HRO := Lib.hid ok.ro
  have HWO := Lib.hid ok.wo
  have q1 := ok.rc
  have q2 := ok.wc
  have q3 := ok.rm
  have q4 := ok.wm
  unfold maxLen at q3 q4
  have HT := Lib.hid hT
  have HF := Lib.hid (fun z (hz : Below w.heap.size w z) => tformed_any s q rs ws A1 c1 A2 c2 z w.heap.size hz.size (ok.below hz (Nat.le_refl _)) (hT.below hz))
  rw [hf] at HF
  clear ok hT
  obtain ⟨n1, hn1⟩ : ∃ n, n = rs.length := ⟨_, rfl⟩
  obtain ⟨n2, hn2⟩ : ∃ n, n = ws.length := ⟨_, rfl⟩
  have HN1 := Lib.hid hn1
  have HN2 := Lib.hid hn2
  rw [← hn1, ← hn2] at HF ⊢
  rw [← hn1] at q1
  rw [← hn2] at q2
  clear hn1 hn2
  rw [← HN1.out] at hr6
  rw [← HN2.out] at hw6
  have HL1 := idput_len l s q
  have HL2 := put_len2 (idput l s q) n1 1
  have k1 : IntKind.u64.wrap (n1 : Int) = (n1 : Int) := wrapOf (by omega)
  have k2 : IntKind.u64.wrap (n2 : Int) = (n2 : Int) := wrapOf (by omega)
  clear hi hf
  obtain ⟨w0, hw0⟩ : ∃ w0, w0 = w.alloc (.cells [.int .i64 s, .int .i64 q, .slice A1 n1 c1, .slice A2 n2 c2].toArray 34) := ⟨_, rfl⟩
  have ee : Below w.heap.size w w0 := by rw [hw0]; exact (Below.refl _ _).alloc (Nat.le_refl _) _
  have Zt : w0.heap[w.heap.size]? = some (.cells [.int .i64 s, .int .i64 q, .slice A1 n1 c1, .slice A2 n2 c2].toArray 34) := by rw [hw0]; exact hpN _ _ rfl
  have H := Lib.hid h
  clear h
  go_enter Tryd.func56, Tryd.ntmps56
  go_upto_region 1 with fail
  rw [← hw0]
  clear hw0
  refine wp_region_lit ?_
  refine wpList_load_mid rfl 34 _ rfl (w.heap.size) 0 rfl [.int .i64 s, .int .i64 q, .slice A1 n1 c1, .slice A2 n2 c2] _ (rowAt Zt) Tryd.underlying34 rfl sizeTx ?_
  go_wp2_with fail
  refine (HF.out w0 ee).mono ?_
  rintro e z1 ⟨rfl, t⟩
  have Zt := hpB Zt t
  have ee := ee.trans (t.mono ee.size)
  clear t
  go_upto_region 3 with fail
  clear HF
  have Zt : z1.drew.heap[w.heap.size]? = some (.cells [.int .i64 s, .int .i64 q, .slice A1 n1 c1, .slice A2 n2 c2].toArray 34) := Zt
  have ee := belowDrewS ee
  refine wp_region_held_drew (S := fun z' => z'.rangeAt w.heap.size 0 [.int .i64 s, .int .i64 q] ∧ z'.cell? ⟨w.heap.size, 2, none⟩ = some (.slice A1 n1 c1)) (by kernel_rfl) ⟨rowMid Zt 0 (by intro j v hj; match j, hj with | 0, hj => exact hj | 1, hj => exact hj), rowCell Zt 2 rfl⟩ (fun hH => ?_)
  clear hH
  generalize z1.drew = z2 at Zt  ee ⊢
  refine wpAnyH_take (i := 0) (v := v) rfl (by kernel_rfl) (by kernel_rfl) (by kernel_rfl) (fun _ _ _ h => h) (Or.inl ⟨by rfl, fun w_ hS_ => by (first | (go_simp; done) | (go_simp; rfl))⟩) ⟨rowMid Zt 0 (by intro j v hj; match j, hj with | 0, hj => exact hj | 1, hj => exact hj), rowCell Zt 2 rfl⟩ ?_
  try simp only [Act.put, List.getElem_toArray, List.getElem_cons_zero, List.getElem_cons_succ, List.setIfInBounds_toArray, List.set_cons_zero, List.set_cons_succ]
  refine wpAnyH_take (i := 1) (v := .pointer (some ⟨w.heap.size, 0, none⟩)) rfl (by kernel_rfl) (by kernel_rfl) (by kernel_rfl) (fun _ _ _ h => h) (Or.inl ⟨by rfl, fun w_ hS_ => by (first | (go_simp; done) | (go_simp; rfl))⟩) ⟨rowMid Zt 0 (by intro j v hj; match j, hj with | 0, hj => exact hj | 1, hj => exact hj), rowCell Zt 2 rfl⟩ ?_
  try simp only [Act.put, List.getElem_toArray, List.getElem_cons_zero, List.getElem_cons_succ, List.setIfInBounds_toArray, List.set_cons_zero, List.set_cons_succ]
  refine wpAnyH_take (i := 2) (v := .agg ([.int .i64 s, .int .i64 q]).toArray) rfl (by kernel_rfl) (by kernel_rfl) (by kernel_rfl) (fun _ _ _ h => h) (yieldsIf_load_mid (by rfl) 30 _ rfl (w.heap.size) (0) rfl ([.int .i64 s, .int .i64 q]) _ (fun _ h => h.1) Tryd.underlying30 rfl sizeId) ⟨rowMid Zt 0 (by intro j v hj; match j, hj with | 0, hj => exact hj | 1, hj => exact hj), rowCell Zt 2 rfl⟩ ?_
  try simp only [Act.put, List.getElem_toArray, List.getElem_cons_zero, List.getElem_cons_succ, List.setIfInBounds_toArray, List.set_cons_zero, List.set_cons_succ]
  refine wpAnyH_take (i := 4) (v := .pointer (some ⟨w.heap.size, 2, none⟩)) rfl (by kernel_rfl) (by kernel_rfl) (by kernel_rfl) (fun _ _ _ h => h) (Or.inl ⟨by rfl, fun w_ hS_ => by (first | (go_simp; done) | (go_simp; rfl))⟩) ⟨rowMid Zt 0 (by intro j v hj; match j, hj with | 0, hj => exact hj | 1, hj => exact hj), rowCell Zt 2 rfl⟩ ?_
  try simp only [Act.put, List.getElem_toArray, List.getElem_cons_zero, List.getElem_cons_succ, List.setIfInBounds_toArray, List.set_cons_zero, List.set_cons_succ]
  refine wpAnyH_take (i := 5) (v := .slice A1 n1 c1) rfl (by kernel_rfl) (by kernel_rfl) (by kernel_rfl) (fun _ _ _ h => h) (Or.inl ⟨by rfl, fun w_ hS_ => by (obtain ⟨h1_, h2_⟩ := hS_; go_simp)⟩) ⟨rowMid Zt 0 (by intro j v hj; match j, hj with | 0, hj => exact hj | 1, hj => exact hj), rowCell Zt 2 rfl⟩ ?_
  try simp only [Act.put, List.getElem_toArray, List.getElem_cons_zero, List.getElem_cons_succ, List.setIfInBounds_toArray, List.set_cons_zero, List.set_cons_succ]
  refine wpAnyH_take (i := 6) (v := .int .i64 (n1 : Int)) rfl (by kernel_rfl) (by kernel_rfl) (by kernel_rfl) (fun _ _ _ h => h) (Or.inl ⟨by rfl, fun w_ hS_ => by (first | (go_simp; done) | (go_simp; rfl))⟩) ⟨rowMid Zt 0 (by intro j v hj; match j, hj with | 0, hj => exact hj | 1, hj => exact hj), rowCell Zt 2 rfl⟩ ?_
  try simp only [Act.put, List.getElem_toArray, List.getElem_cons_zero, List.getElem_cons_succ, List.setIfInBounds_toArray, List.set_cons_zero, List.set_cons_succ]
  refine wpAnyH_take (i := 7) (v := .int .u64 (n1 : Int)) rfl (by kernel_rfl) (by kernel_rfl) (by kernel_rfl) (fun _ _ _ h => h) (Or.inl ⟨by rfl, fun w_ hS_ => by (go_simp; first | done | (rw [k1]))⟩) ⟨rowMid Zt 0 (by intro j v hj; match j, hj with | 0, hj => exact hj | 1, hj => exact hj), rowCell Zt 2 rfl⟩ ?_
  try simp only [Act.put, List.getElem_toArray, List.getElem_cons_zero, List.getElem_cons_succ, List.setIfInBounds_toArray, List.set_cons_zero, List.set_cons_succ]
  refine wpAnyH_ready (rs := [3]) (by kernel_rfl) (by simp) ?_
  refine AllReadyH.cons rfl (fun K hK => ?_) AllReadyH.nil
  rw [if_pos (by rfl)]
  go_simp
  have sz_ := ee.size
  go_wp2_with (go_at_call 57; refine (putid_s (H.out.belowM ee hB) hl (Nat.le_trans hB ee.size) s q).mono ?_; rintro e z3 ⟨v1, rfl, g1, t, fr⟩)
  have fr := Fresh.mono fr sz_
  clear sz_
  have Zt := hpB Zt t
  have ee := ee.trans (t.mono ee.size)
  clear t
  refine hK.out _ _ ⟨rowMid Zt 0 (by intro j v hj; match j, hj with | 0, hj => exact hj | 1, hj => exact hj), rowCell Zt 2 rfl⟩ (fun hH => ?_)
  clear hK K hH
  try simp only [Act.put, List.getElem_toArray, List.getElem_cons_zero, List.getElem_cons_succ, List.setIfInBounds_toArray, List.set_cons_zero, List.set_cons_succ]
  refine wpAnyH_ready (rs := [8]) (by kernel_rfl) (by simp) ?_
  refine AllReadyH.cons rfl (fun K hK => ?_) AllReadyH.nil
  rw [if_pos (by rfl)]
  go_simp
  have sz_ := ee.size
  go_wp2_with (go_at_call 55; refine (put_s g1 (by omega) (Nat.le_refl _) n1 (by omega) 1).mono ?_; rintro e z4 ⟨v2, rfl, g2, t, fr⟩)
  have fr := Fresh.mono fr sz_
  clear sz_
  have Zt := hpB Zt t
  have ee := ee.trans (t.mono ee.size)
  clear t
  refine hK.out _ _ ⟨rowMid Zt 0 (by intro j v hj; match j, hj with | 0, hj => exact hj | 1, hj => exact hj), rowCell Zt 2 rfl⟩ (fun hH => ?_)
  clear hK K hH
  try simp only [Act.put, List.getElem_toArray, List.getElem_cons_zero, List.getElem_cons_succ, List.setIfInBounds_toArray, List.set_cons_zero, List.set_cons_succ]
  refine wpAnyH_take (i := 9) (v := v2) rfl (by kernel_rfl) (by kernel_rfl) (by kernel_rfl) (fun _ _ _ h => h) (Or.inl ⟨by rfl, fun w_ hS_ => by (first | (go_simp; done) | (go_simp; rfl))⟩) ⟨rowMid Zt 0 (by intro j v hj; match j, hj with | 0, hj => exact hj | 1, hj => exact hj), rowCell Zt 2 rfl⟩ ?_
  try simp only [Act.put, List.getElem_toArray, List.getElem_cons_zero, List.getElem_cons_succ, List.setIfInBounds_toArray, List.set_cons_zero, List.set_cons_succ]
  refine wpAnyH_done (by kernel_rfl) ?_ _
  have x2 := rowCell Zt 2 rfl
  go_wp2_with fail
  clear x2
  go_loopw [0, 26] (fun u i wr => ∃ (k : Nat) (vv : Value), k ≤ n1 ∧ i = .int .i64 (k : Int) ∧ u = vv ∧ Hid (SlB wr wr.heap.size vv ((rs.take k).foldl rput (C.put (idput l s q) n1 1))) ∧ Hid (wr.heap[w.heap.size]? = some (.cells [.int .i64 s, .int .i64 q, .slice A1 n1 c1, .slice A2 n2 c2].toArray 34)) ∧ Hid (Fresh w.heap.size vv) ∧ Hid (Below w.heap.size w wr)) (fun _ i _ => n1 - (intOf i).toNat)
  case atStart => exact ⟨0, v2, Nat.zero_le _, rfl, rfl, g2, Zt, fr, ee⟩
  case round =>
    clear Zt ee g2 fr
    obtain ⟨k, vv, hk, rfl, hu, hs, Zt, fr, ee⟩ := hrel
    have hu := hu.symm
    subst hu
    have Zt := Zt.out
    have ee := ee.out
    have hs := hs.out
    by_cases hlt : k < n1
    · have hkl : k < rs.length := by rw [← HN1.out]; exact hlt
      obtain ⟨bo, off, rfl, hbo, hr⟩ := rowsGet HR.out hkl
      have HX : Hid (okR (rs[k]'hkl)) := HRO.out _ (List.getElem_mem hkl)
      have HK : Hid (((rs.take (k + 1)).foldl rput (C.put (idput l s q) n1 1)) = rput (((rs.take k).foldl rput (C.put (idput l s q) n1 1))) (rs[k]'hkl)) := by
        show _ = _
        rw [List.take_succ_eq_append_getElem hkl, List.foldl_append]; rfl
      have hlen := rfold_len (rs.take k) (C.put (idput l s q) n1 1)
      have hlt6 : (rs.take k).length ≤ 6 := by rw [List.length_take]; omega
      generalize (rs.take k).foldl rput (C.put (idput l s q) n1 1) = lk at hs HK hlen
      generalize rs[k] = x at hr HX HK

      obtain ⟨xk, xv⟩ := x
      have hx1 := HX.out.1
      have hx2 := HX.out.2
      simp only at hx1 hx2
      have hpl := puttext_len lk xk
      have hsz : (⟨xk.toArray⟩ : ByteArray).size ≤ 9223372036854775807 := by simpa [ByteArray.size] using hx1
      go_upto_region 6 with fail
      refine wp_region_lit ?_
      have ey : Below wr.heap.size wr wr := Below.refl _ _
      iterate 27 (first | with_reducible refine isLoad (ty := 114) rfl ?_ | go_step)
      refine wpList_load_mid rfl 114 _ rfl (bo) (off + k * 2) rfl (encR (xk, xv)) _ (rangeB hr ee hbo) Tryd.underlying114 rfl sizeRd ?_
      have e0s := ee.size
      iterate 3 go_step
      have lZt := (Array.getElem?_eq_some_iff.1 Zt).1
      have Zt := hpA Zt (.cells #[.string ⟨#[]⟩, .int .u64 0] 114)
      have ee := ee.alloc ee.size (.cells #[.string ⟨#[]⟩, .int .u64 0] 114)
      have ey := ey.alloc ey.size (.cells #[.string ⟨#[]⟩, .int .u64 0] 114)
      have Zi := hpN wr (.cells #[.string ⟨#[]⟩, .int .u64 0] 114) rfl
      generalize wr.alloc (.cells #[.string ⟨#[]⟩, .int .u64 0] 114) = z5 at Zt Zi ee ey ⊢
      iterate 27 (first | with_reducible refine isStore (ty := 114) rfl ?_ | go_step)
      refine wpList_store_row rfl 114 _ _ rfl (wr.heap.size) (encR (xk, xv)).toArray rfl rfl 114 _ Zi sizeRd (by rfl) (encR_one _) ?_
      have N_ := setRow_heap z5 (wr.heap.size) _ (encR (xk, xv)).toArray _ _ Zi
      have ee := belowSet (cs := (encR (xk, xv)).toArray) ee Zi (by omega)
      have ey := belowSet (cs := (encR (xk, xv)).toArray) ey Zi (by omega)
      have Zt := hpR Zt (g' := wr.heap.size) (by omega) (encR (xk, xv)).toArray
      clear Zi
      have Zi := N_
      clear N_
      generalize z5.setRow (wr.heap.size) (encR (xk, xv)).toArray = z6 at Zt Zi ee ey ⊢
      skip
      go_upto_region 7 with fail
      have Zt : z6.drew.heap[w.heap.size]? = some (.cells [.int .i64 s, .int .i64 q, .slice (some ⟨bo, off, none⟩) n1 c1, .slice A2 n2 c2].toArray 34) := Zt
      have Zi : z6.drew.heap[wr.heap.size]? = some (.cells (encR (xk, xv)).toArray 114) := Zi
      have ee := belowDrewS ee
      have ey := belowDrewS ey
      refine wp_region_held_drew (S := fun z' => z'.cell? ⟨wr.heap.size, 0, none⟩ = some (.string ⟨xk.toArray⟩) ∧ z'.cell? ⟨wr.heap.size, 1, none⟩ = some (.int .u64 (xv : Int))) (by kernel_rfl) ⟨rowCell Zi 0 rfl, rowCell Zi 1 rfl⟩ (fun hH => ?_)
      clear hH
      generalize z6.drew = z7 at Zt Zi  ee ey ⊢
      refine wpAnyH_take (i := 0) (v := vv) rfl (by kernel_rfl) (by kernel_rfl) (by kernel_rfl) (fun _ _ _ h => h) (Or.inl ⟨by rfl, fun w_ hS_ => by (first | (go_simp; done) | (go_simp; rfl))⟩) ⟨rowCell Zi 0 rfl, rowCell Zi 1 rfl⟩ ?_
      try simp only [Act.put, List.getElem_toArray, List.getElem_cons_zero, List.getElem_cons_succ, List.setIfInBounds_toArray, List.set_cons_zero, List.set_cons_succ]
      refine wpAnyH_take (i := 1) (v := .pointer (some ⟨wr.heap.size, 0, none⟩)) rfl (by kernel_rfl) (by kernel_rfl) (by kernel_rfl) (fun _ _ _ h => h) (Or.inl ⟨by rfl, fun w_ hS_ => by (first | (go_simp; done) | (go_simp; rfl))⟩) ⟨rowCell Zi 0 rfl, rowCell Zi 1 rfl⟩ ?_
      try simp only [Act.put, List.getElem_toArray, List.getElem_cons_zero, List.getElem_cons_succ, List.setIfInBounds_toArray, List.set_cons_zero, List.set_cons_succ]
      refine wpAnyH_take (i := 2) (v := .string ⟨xk.toArray⟩) rfl (by kernel_rfl) (by kernel_rfl) (by kernel_rfl) (fun _ _ _ h => h) (Or.inl ⟨by rfl, fun w_ hS_ => by (obtain ⟨h1_, h2_⟩ := hS_; go_simp)⟩) ⟨rowCell Zi 0 rfl, rowCell Zi 1 rfl⟩ ?_
      try simp only [Act.put, List.getElem_toArray, List.getElem_cons_zero, List.getElem_cons_succ, List.setIfInBounds_toArray, List.set_cons_zero, List.set_cons_succ]
      refine wpAnyH_take (i := 4) (v := .pointer (some ⟨wr.heap.size, 1, none⟩)) rfl (by kernel_rfl) (by kernel_rfl) (by kernel_rfl) (fun _ _ _ h => h) (Or.inl ⟨by rfl, fun w_ hS_ => by (first | (go_simp; done) | (go_simp; rfl))⟩) ⟨rowCell Zi 0 rfl, rowCell Zi 1 rfl⟩ ?_
      try simp only [Act.put, List.getElem_toArray, List.getElem_cons_zero, List.getElem_cons_succ, List.setIfInBounds_toArray, List.set_cons_zero, List.set_cons_succ]
      refine wpAnyH_take (i := 5) (v := .int .u64 (xv : Int)) rfl (by kernel_rfl) (by kernel_rfl) (by kernel_rfl) (fun _ _ _ h => h) (Or.inl ⟨by rfl, fun w_ hS_ => by (obtain ⟨h1_, h2_⟩ := hS_; go_simp)⟩) ⟨rowCell Zi 0 rfl, rowCell Zi 1 rfl⟩ ?_
      try simp only [Act.put, List.getElem_toArray, List.getElem_cons_zero, List.getElem_cons_succ, List.setIfInBounds_toArray, List.set_cons_zero, List.set_cons_succ]
      refine wpAnyH_ready (rs := [3]) (by kernel_rfl) (by simp) ?_
      refine AllReadyH.cons rfl (fun K hK => ?_) AllReadyH.nil
      rw [if_pos (by rfl)]
      go_simp
      have sz_ := ee.size
      go_wp2_with (go_at_call 77; refine (puttext_s (hs.belowM ey (Nat.le_refl _)) (by omega) (by have := ey.size; omega) _ hsz).mono ?_; rintro e z8 ⟨v1, rfl, g1, t, fr⟩)
      have fr := Fresh.mono fr sz_
      clear sz_
      have Zt := hpB Zt t
      have Zi := hpB Zi t
      have ee := ee.trans (t.mono ee.size)
      have ey := ey.trans (t.mono ey.size)
      clear t
      refine hK.out _ _ ⟨rowCell Zi 0 rfl, rowCell Zi 1 rfl⟩ (fun hH => ?_)
      clear hK K hH
      try simp only [Act.put, List.getElem_toArray, List.getElem_cons_zero, List.getElem_cons_succ, List.setIfInBounds_toArray, List.set_cons_zero, List.set_cons_succ]
      refine wpAnyH_ready (rs := [6]) (by kernel_rfl) (by simp) ?_
      refine AllReadyH.cons rfl (fun K hK => ?_) AllReadyH.nil
      rw [if_pos (by rfl)]
      go_simp
      have sz_ := ee.size
      go_wp2_with (go_at_call 55; refine (put_s g1 (by omega) (Nat.le_refl _) xv hx2 8).mono ?_; rintro e z9 ⟨v2, rfl, hs, t, fr⟩)
      have fr := Fresh.mono fr sz_
      clear sz_
      have Zt := hpB Zt t
      have Zi := hpB Zi t
      have ee := ee.trans (t.mono ee.size)
      have ey := ey.trans (t.mono ey.size)
      clear t
      refine hK.out _ _ ⟨rowCell Zi 0 rfl, rowCell Zi 1 rfl⟩ (fun hH => ?_)
      clear hK K hH
      try simp only [Act.put, List.getElem_toArray, List.getElem_cons_zero, List.getElem_cons_succ, List.setIfInBounds_toArray, List.set_cons_zero, List.set_cons_succ]
      refine wpAnyH_take (i := 7) (v := v2) rfl (by kernel_rfl) (by kernel_rfl) (by kernel_rfl) (fun _ _ _ h => h) (Or.inl ⟨by rfl, fun w_ hS_ => by (first | (go_simp; done) | (go_simp; rfl))⟩) ⟨rowCell Zi 0 rfl, rowCell Zi 1 rfl⟩ ?_
      try simp only [Act.put, List.getElem_toArray, List.getElem_cons_zero, List.getElem_cons_succ, List.setIfInBounds_toArray, List.set_cons_zero, List.set_cons_succ]
      refine wpAnyH_done (by kernel_rfl) ?_ _
      go_wp2_with fail
      go_roundw
      case rel => exact ⟨k + 1, _, by omega, by go_num, rfl, HK.out ▸ hs, Zt, fr, ee⟩
      case measure => simp [intOf]; omega
    · obtain rfl : n1 = k := by omega
      have htk : rs.take n1 = rs := by rw [HN1.out]; exact List.take_length
      rw [htk] at hs
      clear htk hlt k1
      have hlr := rfold_len rs (C.put (idput l s q) n1 1)
      rw [← HN1.out] at hlr
      obtain ⟨lr, hlr0⟩ : ∃ lr, lr = rs.foldl rput (C.put (idput l s q) n1 1) := ⟨_, rfl⟩
      have HLR := Lib.hid hlr0
      rw [← hlr0] at hs hlr
      clear hlr0
      have HL3 := put_len2 lr n2 1
      have x3 := rowCell Zt 3 rfl
      have ey : Below wr.heap.size wr wr := Below.refl _ _
      go_wp2_with fail
      have sz_ := ee.size
      refine (put_s hs (by omega) (Nat.le_refl _) n2 (by omega) 1).mono ?_
      rintro e z21 ⟨v2, rfl, g2, t, fr⟩
      have fr := Fresh.mono fr sz_
      clear sz_
      have Zt := hpB Zt t
      have ee := ee.trans (t.mono ee.size)
      clear t
      clear x3 hs ey k2
      have x3 := rowCell Zt 3 rfl
      go_wp2_with fail
      clear x3
      go_loopw [0, 47] (fun u i wr => ∃ (k : Nat) (vv : Value), k ≤ n2 ∧ i = .int .i64 (k : Int) ∧ u = vv ∧ Hid (SlB wr wr.heap.size vv ((ws.take k).foldl wput (C.put lr n2 1))) ∧ Hid (wr.heap[w.heap.size]? = some (.cells [.int .i64 s, .int .i64 q, .slice A1 n1 c1, .slice A2 n2 c2].toArray 34)) ∧ Hid (Fresh w.heap.size vv) ∧ Hid (Below w.heap.size w wr)) (fun _ i _ => n2 - (intOf i).toNat)
      case atStart => exact ⟨0, v2, Nat.zero_le _, rfl, rfl, g2, Zt, fr, ee⟩
      case round =>
        clear Zt ee g2 fr
        obtain ⟨k, vv, hk, rfl, hu, hs, Zt, fr, ee⟩ := hrel
        have hu := hu.symm
        subst hu
        have Zt := Zt.out
        have ee := ee.out
        have hs := hs.out
        by_cases hlt : k < n2
        · have hkl : k < ws.length := by rw [← HN2.out]; exact hlt
          obtain ⟨bo, off, rfl, hbo, hr⟩ := rowsGet HW.out hkl
          have HX : Hid (okW (ws[k]'hkl)) := HWO.out _ (List.getElem_mem hkl)
          have HK : Hid (((ws.take (k + 1)).foldl wput (C.put lr n2 1)) = wput (((ws.take k).foldl wput (C.put lr n2 1))) (ws[k]'hkl)) := by
            show _ = _
            rw [List.take_succ_eq_append_getElem hkl, List.foldl_append]; rfl
          have hlen := wfold_len (ws.take k) (C.put lr n2 1)
          have hlt6 : (ws.take k).length ≤ 6 := by rw [List.length_take]; omega
          generalize (ws.take k).foldl wput (C.put lr n2 1) = lk at hs HK hlen
          generalize ws[k] = x at hr HX HK

          obtain ⟨xk, xi, xb, xt⟩ := x
          have hx1 := HX.out.1
          have hx2 := HX.out.2.1
          have hx3 := HX.out.2.2
          simp only at hx1 hx2 hx3
          have hpl := puttext_len lk xk
          have hsz : (⟨xk.toArray⟩ : ByteArray).size ≤ 9223372036854775807 := by simpa [ByteArray.size] using hx1
          have hst : (⟨xt.toArray⟩ : ByteArray).size ≤ 9223372036854775807 := by simpa [ByteArray.size] using hx3
          go_upto_region 12 with fail
          refine wp_region_lit ?_
          have ey : Below wr.heap.size wr wr := Below.refl _ _
          iterate 27 (first | with_reducible refine isLoad (ty := 118) rfl ?_ | go_step)
          refine wpList_load_mid rfl 118 _ rfl (bo) (off + k * 4) rfl (encW (xk, xi, xb, xt)) _ (rangeB hr ee hbo) Tryd.underlying118 rfl sizeWr ?_
          have e0s := ee.size
          iterate 3 go_step
          have lZt := (Array.getElem?_eq_some_iff.1 Zt).1
          have Zt := hpA Zt (.cells #[.string ⟨#[]⟩, .int .i64 0, .int .u64 0, .string ⟨#[]⟩] 118)
          have ee := ee.alloc ee.size (.cells #[.string ⟨#[]⟩, .int .i64 0, .int .u64 0, .string ⟨#[]⟩] 118)
          have ey := ey.alloc ey.size (.cells #[.string ⟨#[]⟩, .int .i64 0, .int .u64 0, .string ⟨#[]⟩] 118)
          have Zi := hpN wr (.cells #[.string ⟨#[]⟩, .int .i64 0, .int .u64 0, .string ⟨#[]⟩] 118) rfl
          generalize wr.alloc (.cells #[.string ⟨#[]⟩, .int .i64 0, .int .u64 0, .string ⟨#[]⟩] 118) = z22 at Zt Zi ee ey ⊢
          iterate 27 (first | with_reducible refine isStore (ty := 118) rfl ?_ | go_step)
          refine wpList_store_row rfl 118 _ _ rfl (wr.heap.size) (encW (xk, xi, xb, xt)).toArray rfl rfl 118 _ Zi sizeWr (by rfl) (encW_one _) ?_
          have N_ := setRow_heap z22 (wr.heap.size) _ (encW (xk, xi, xb, xt)).toArray _ _ Zi
          have ee := belowSet (cs := (encW (xk, xi, xb, xt)).toArray) ee Zi (by omega)
          have ey := belowSet (cs := (encW (xk, xi, xb, xt)).toArray) ey Zi (by omega)
          have Zt := hpR Zt (g' := wr.heap.size) (by omega) (encW (xk, xi, xb, xt)).toArray
          clear Zi
          have Zi := N_
          clear N_
          generalize z22.setRow (wr.heap.size) (encW (xk, xi, xb, xt)).toArray = z23 at Zt Zi ee ey ⊢
          go_upto_region 13 with fail
          have Zt : z23.drew.heap[w.heap.size]? = some (.cells [.int .i64 s, .int .i64 q, .slice A1 n1 c1, .slice (some ⟨bo, off, none⟩) n2 c2].toArray 34) := Zt
          have Zi : z23.drew.heap[wr.heap.size]? = some (.cells (encW (xk, xi, xb, xt)).toArray 118) := Zi
          have ee := belowDrewS ee
          have ey := belowDrewS ey
          refine wp_region_held_drew (S := fun z' => z'.cell? ⟨wr.heap.size, 0, none⟩ = some (.string ⟨xk.toArray⟩) ∧ z'.rangeAt (wr.heap.size) 1 [.int .i64 xi, .int .u64 (xb : Int), .string ⟨xt.toArray⟩]) (by kernel_rfl) ⟨rowCell Zi 0 rfl, rowMid Zi 1 (by intro j v hj; match j, hj with | 0, hj => exact hj | 1, hj => exact hj | 2, hj => exact hj)⟩ (fun hH => ?_)
          clear hH
          generalize z23.drew = z24 at Zt Zi  ee ey ⊢
          refine wpAnyH_take (i := 0) (v := vv) rfl (by kernel_rfl) (by kernel_rfl) (by kernel_rfl) (fun _ _ _ h => h) (Or.inl ⟨by rfl, fun w_ hS_ => by (first | (go_simp; done) | (go_simp; rfl))⟩) ⟨rowCell Zi 0 rfl, rowMid Zi 1 (by intro j v hj; match j, hj with | 0, hj => exact hj | 1, hj => exact hj | 2, hj => exact hj)⟩ ?_
          try simp only [Act.put, List.getElem_toArray, List.getElem_cons_zero, List.getElem_cons_succ, List.setIfInBounds_toArray, List.set_cons_zero, List.set_cons_succ]
          refine wpAnyH_take (i := 1) (v := .pointer (some ⟨wr.heap.size, 0, none⟩)) rfl (by kernel_rfl) (by kernel_rfl) (by kernel_rfl) (fun _ _ _ h => h) (Or.inl ⟨by rfl, fun w_ hS_ => by (first | (go_simp; done) | (go_simp; rfl))⟩) ⟨rowCell Zi 0 rfl, rowMid Zi 1 (by intro j v hj; match j, hj with | 0, hj => exact hj | 1, hj => exact hj | 2, hj => exact hj)⟩ ?_
          try simp only [Act.put, List.getElem_toArray, List.getElem_cons_zero, List.getElem_cons_succ, List.setIfInBounds_toArray, List.set_cons_zero, List.set_cons_succ]
          refine wpAnyH_take (i := 2) (v := .string ⟨xk.toArray⟩) rfl (by kernel_rfl) (by kernel_rfl) (by kernel_rfl) (fun _ _ _ h => h) (Or.inl ⟨by rfl, fun w_ hS_ => by (obtain ⟨h1_, h2_⟩ := hS_; go_simp)⟩) ⟨rowCell Zi 0 rfl, rowMid Zi 1 (by intro j v hj; match j, hj with | 0, hj => exact hj | 1, hj => exact hj | 2, hj => exact hj)⟩ ?_
          try simp only [Act.put, List.getElem_toArray, List.getElem_cons_zero, List.getElem_cons_succ, List.setIfInBounds_toArray, List.set_cons_zero, List.set_cons_succ]
          refine wpAnyH_take (i := 4) (v := .pointer (some ⟨wr.heap.size, 1, none⟩)) rfl (by kernel_rfl) (by kernel_rfl) (by kernel_rfl) (fun _ _ _ h => h) (Or.inl ⟨by rfl, fun w_ hS_ => by (first | (go_simp; done) | (go_simp; rfl))⟩) ⟨rowCell Zi 0 rfl, rowMid Zi 1 (by intro j v hj; match j, hj with | 0, hj => exact hj | 1, hj => exact hj | 2, hj => exact hj)⟩ ?_
          try simp only [Act.put, List.getElem_toArray, List.getElem_cons_zero, List.getElem_cons_succ, List.setIfInBounds_toArray, List.set_cons_zero, List.set_cons_succ]
          refine wpAnyH_take (i := 5) (v := .agg ([.int .i64 xi, .int .u64 (xb : Int), .string ⟨xt.toArray⟩]).toArray) rfl (by kernel_rfl) (by kernel_rfl) (by kernel_rfl) (fun _ _ _ h => h) (yieldsIf_load_mid (by rfl) 116 _ rfl (wr.heap.size) (1) rfl ([.int .i64 xi, .int .u64 (xb : Int), .string ⟨xt.toArray⟩]) _ (fun _ h => h.2) Tryd.underlying116 rfl sizeVl) ⟨rowCell Zi 0 rfl, rowMid Zi 1 (by intro j v hj; match j, hj with | 0, hj => exact hj | 1, hj => exact hj | 2, hj => exact hj)⟩ ?_
          try simp only [Act.put, List.getElem_toArray, List.getElem_cons_zero, List.getElem_cons_succ, List.setIfInBounds_toArray, List.set_cons_zero, List.set_cons_succ]
          refine wpAnyH_ready (rs := [3]) (by kernel_rfl) (by simp) ?_
          refine AllReadyH.cons rfl (fun K hK => ?_) AllReadyH.nil
          rw [if_pos (by rfl)]
          go_simp
          have sz_ := ee.size
          go_wp2_with (go_at_call 77; refine (puttext_s (hs.belowM ey (Nat.le_refl _)) (by omega) (by have := ey.size; omega) _ hsz).mono ?_; rintro e z25 ⟨v1, rfl, g1, t, fr⟩)
          have fr := Fresh.mono fr sz_
          clear sz_
          have Zt := hpB Zt t
          have Zi := hpB Zi t
          have ee := ee.trans (t.mono ee.size)
          have ey := ey.trans (t.mono ey.size)
          clear t
          refine hK.out _ _ ⟨rowCell Zi 0 rfl, rowMid Zi 1 (by intro j v hj; match j, hj with | 0, hj => exact hj | 1, hj => exact hj | 2, hj => exact hj)⟩ (fun hH => ?_)
          clear hK K hH
          try simp only [Act.put, List.getElem_toArray, List.getElem_cons_zero, List.getElem_cons_succ, List.setIfInBounds_toArray, List.set_cons_zero, List.set_cons_succ]
          refine wpAnyH_ready (rs := [6]) (by kernel_rfl) (by simp) ?_
          refine AllReadyH.cons rfl (fun K hK => ?_) AllReadyH.nil
          rw [if_pos (by rfl)]
          go_simp
          have sz_ := ee.size
          go_wp2_with (go_at_call 78; refine (vput_s g1 (by omega) (Nat.le_refl _) xi xb _ hx2 hst (HT.out.below ee)).mono ?_; rintro e z26 ⟨v2, rfl, hs, t, fr⟩)
          have fr := Fresh.mono fr sz_
          clear sz_
          have Zt := hpB Zt t
          have Zi := hpB Zi t
          have ee := ee.trans (t.mono ee.size)
          have ey := ey.trans (t.mono ey.size)
          clear t
          refine hK.out _ _ ⟨rowCell Zi 0 rfl, rowMid Zi 1 (by intro j v hj; match j, hj with | 0, hj => exact hj | 1, hj => exact hj | 2, hj => exact hj)⟩ (fun hH => ?_)
          clear hK K hH
          try simp only [Act.put, List.getElem_toArray, List.getElem_cons_zero, List.getElem_cons_succ, List.setIfInBounds_toArray, List.set_cons_zero, List.set_cons_succ]
          refine wpAnyH_take (i := 7) (v := v2) rfl (by kernel_rfl) (by kernel_rfl) (by kernel_rfl) (fun _ _ _ h => h) (Or.inl ⟨by rfl, fun w_ hS_ => by (first | (go_simp; done) | (go_simp; rfl))⟩) ⟨rowCell Zi 0 rfl, rowMid Zi 1 (by intro j v hj; match j, hj with | 0, hj => exact hj | 1, hj => exact hj | 2, hj => exact hj)⟩ ?_
          try simp only [Act.put, List.getElem_toArray, List.getElem_cons_zero, List.getElem_cons_succ, List.setIfInBounds_toArray, List.set_cons_zero, List.set_cons_succ]
          refine wpAnyH_done (by kernel_rfl) ?_ _
          go_wp2_with fail
          go_roundw
          case rel => exact ⟨k + 1, _, by omega, by go_num, rfl, HK.out ▸ hs, Zt, fr, ee⟩
          case measure => simp [intOf]; omega
        · obtain rfl : n2 = k := by omega
          have htk : ws.take n2 = ws := by rw [HN2.out]; exact List.take_length
          rw [htk] at hs
          rw [HLR.out] at hs
          clear htk hlt
          go_wp2_with fail
          go_ret
          exact ⟨_, rfl, hs, ee, fr.out⟩
theorem tput_s {w : World} {B : Nat} {v : Value} {l : List UInt8} (h : SlB w B v l) (hl : l.length ≤ 4294967296) (hB : B ≤ w.heap.size) (s q : Int) (rs : List Rd1) (ws : List Wr1) (A1 : Option Addr) (c1 : Nat) (A2 : Option Addr) (c2 : Nat) (ok : TxOk w w.heap.size rs ws A1 c1 A2 c2) (hT : Tabs w) : Calls Tryd.prog 56 #[v, .agg #[.int .i64 s, .int .i64 q, .slice A1 rs.length c1, .slice A2 ws.length c2]] w (GotB w (tput l s q rs ws)) := by
  unfold tput
  cases hf : formed s q rs ws with
  | false => exact tput_no h hl hB s q rs ws A1 c1 A2 c2 ok hT hf
  | true => exact tput_yes h hl hB s q rs ws A1 c1 A2 c2 ok hT hf
end Go.Proofs.YtkfnepmiigkdfaaDoor

namespace Go.Proofs.YtkfnepmiigkdfaaDoor
set_option maxRecDepth 20001
open Go.RowKit T
set_option linter.unusedSimpArgs false
set_option linter.unusedVariables false

set_option maxHeartbeats 3200000 in
theorem cput_no {w : World} {B : Nat} {v : Value} {l : List UInt8} (h : SlB w B v l) (hl : l.length ≤ 2147483648) (hB : B ≤ w.heap.size) (x : Cm) (ok : CmOk w w.heap.size x) (hT : Tabs w) (hf : x.formed = false) : Calls Tryd.prog 29 #[v, .agg x.cells.toArray] w (GotB w l) := by
  have HT := Lib.hid hT
  have HF := Lib.hid (fun z (hz : Below w.heap.size w z) => cformed_any x.k x.s x.q x.rs x.ws x.A1 x.c1 x.A2 x.c2 x.i x.j x.g x.st x.y z w.heap.size hz.size (ok.below hz (Nat.le_refl _)) (hT.below hz))
  have HFE : Hid (x.formed = T.cformed x.k x.s x.q x.rs x.ws x.i x.j x.g x.st x.y) := rfl
  rw [← HFE.out, hf] at HF
  have HO := Lib.hid ok
  clear hT ok hf HFE
  obtain ⟨w0, hw0⟩ : ∃ w0, w0 = w.alloc (.cells x.cells.toArray 37) := ⟨_, rfl⟩
  have ee : Below w.heap.size w w0 := by rw [hw0]; exact (Below.refl _ _).alloc (Nat.le_refl _) _
  have Zt : w0.heap[w.heap.size]? = some (.cells x.cells.toArray 37) := by rw [hw0]; exact hpN _ _ rfl
  have H := Lib.hid h
  clear h
  go_enter Tryd.func29, Tryd.ntmps29
  go_upto_region 1 with fail
  rw [← hw0]
  clear hw0
  refine wp_region_lit ?_
  refine wpList_load_mid rfl 37 _ rfl (w.heap.size) 0 rfl x.cells _ (rowAt Zt) Tryd.underlying37 rfl sizeCm ?_
  go_wp2_with fail
  refine (HF.out w0 ee).mono ?_
  rintro e z1 ⟨rfl, t⟩
  have Zt := hpB Zt t
  have ee := ee.trans (t.mono ee.size)
  clear t
  clear HF
  go_wp2_with fail
  have sz_ := ee.size
  refine (clone_s (H.out.belowM ee hB) (by omega) (Nat.le_trans hB ee.size)).mono ?_
  rintro e z2 ⟨v2, rfl, h2, t, fr⟩
  have fr := Fresh.mono fr sz_
  clear sz_
  have Zt := hpB Zt t
  have ee := ee.trans (t.mono ee.size)
  clear t
  go_wp2_with fail
  go_ret
  exact ⟨v2, rfl, h2, ee, fr⟩
set_option maxHeartbeats 3200000 in
theorem cput_0 {w : World} {B : Nat} {v : Value} {l : List UInt8} (h : SlB w B v l) (hl : l.length ≤ 2147483648) (hB : B ≤ w.heap.size) (x : Cm) (ok : CmOk w w.heap.size x) (hT : Tabs w) (hf : x.formed = true) (hk : x.k = 0) : Calls Tryd.prog 29 #[v, .agg x.cells.toArray] w (GotB w (C.put l 0 1)) := by
  have HX0 : Hid (x.cells[0]? = some (.int .i64 0)) := by show _ = _; rw [← hk]; rfl
  have HT := Lib.hid hT
  have HF := Lib.hid (fun z (hz : Below w.heap.size w z) => cformed_any x.k x.s x.q x.rs x.ws x.A1 x.c1 x.A2 x.c2 x.i x.j x.g x.st x.y z w.heap.size hz.size (ok.below hz (Nat.le_refl _)) (hT.below hz))
  have HFE : Hid (x.formed = T.cformed x.k x.s x.q x.rs x.ws x.i x.j x.g x.st x.y) := rfl
  rw [← HFE.out, hf] at HF
  have HO := Lib.hid ok
  clear hT ok hf HFE
  have HL1 := put_len2 l 0 1
  obtain ⟨w0, hw0⟩ : ∃ w0, w0 = w.alloc (.cells x.cells.toArray 37) := ⟨_, rfl⟩
  have ee : Below w.heap.size w w0 := by rw [hw0]; exact (Below.refl _ _).alloc (Nat.le_refl _) _
  have Zt : w0.heap[w.heap.size]? = some (.cells x.cells.toArray 37) := by rw [hw0]; exact hpN _ _ rfl
  have H := Lib.hid h
  clear h
  go_enter Tryd.func29, Tryd.ntmps29
  go_upto_region 1 with fail
  rw [← hw0]
  clear hw0
  refine wp_region_lit ?_
  refine wpList_load_mid rfl 37 _ rfl (w.heap.size) 0 rfl x.cells _ (rowAt Zt) Tryd.underlying37 rfl sizeCm ?_
  go_wp2_with fail
  refine (HF.out w0 ee).mono ?_
  rintro e z1 ⟨rfl, t⟩
  have Zt := hpB Zt t
  have ee := ee.trans (t.mono ee.size)
  clear t
  clear HF
  have x0 := rowCell Zt 0 (v := .int .i64 0) (by rw [← hk]; rfl)
  clear hk
  go_wp2_with fail
  have sz_ := ee.size
  refine (put_s (H.out.belowM ee hB) (by omega) (Nat.le_trans hB ee.size) 0 (by omega) 1).mono ?_
  rintro e z2 ⟨v1, rfl, g1, t, fr⟩
  have fr := Fresh.mono fr sz_
  clear sz_
  have Zt := hpB Zt t
  have ee := ee.trans (t.mono ee.size)
  clear t
  have x0 := rowCell Zt 0 (v := .int .i64 0) HX0.out
  go_wp2_with fail
  go_ret
  exact ⟨v1, rfl, g1, ee, fr⟩
set_option maxHeartbeats 3200000 in
theorem cput_1 {w : World} {B : Nat} {v : Value} {l : List UInt8} (h : SlB w B v l) (hl : l.length ≤ 2147483648) (hB : B ≤ w.heap.size) (x : Cm) (ok : CmOk w w.heap.size x) (hT : Tabs w) (hf : x.formed = true) (hk : x.k = 1) : Calls Tryd.prog 29 #[v, .agg x.cells.toArray] w (GotB w (tput (C.put l 1 1) x.s x.q x.rs x.ws)) := by
  have HX0 : Hid (x.cells[0]? = some (.int .i64 1)) := by show _ = _; rw [← hk]; rfl
  have HT := Lib.hid hT
  have HF := Lib.hid (fun z (hz : Below w.heap.size w z) => cformed_any x.k x.s x.q x.rs x.ws x.A1 x.c1 x.A2 x.c2 x.i x.j x.g x.st x.y z w.heap.size hz.size (ok.below hz (Nat.le_refl _)) (hT.below hz))
  have HFE : Hid (x.formed = T.cformed x.k x.s x.q x.rs x.ws x.i x.j x.g x.st x.y) := rfl
  rw [← HFE.out, hf] at HF
  have HO := Lib.hid ok
  clear hT ok hf HFE
  have HL1 := put_len2 l 1 1
  obtain ⟨w0, hw0⟩ : ∃ w0, w0 = w.alloc (.cells x.cells.toArray 37) := ⟨_, rfl⟩
  have ee : Below w.heap.size w w0 := by rw [hw0]; exact (Below.refl _ _).alloc (Nat.le_refl _) _
  have Zt : w0.heap[w.heap.size]? = some (.cells x.cells.toArray 37) := by rw [hw0]; exact hpN _ _ rfl
  have H := Lib.hid h
  clear h
  go_enter Tryd.func29, Tryd.ntmps29
  go_upto_region 1 with fail
  rw [← hw0]
  clear hw0
  refine wp_region_lit ?_
  refine wpList_load_mid rfl 37 _ rfl (w.heap.size) 0 rfl x.cells _ (rowAt Zt) Tryd.underlying37 rfl sizeCm ?_
  go_wp2_with fail
  refine (HF.out w0 ee).mono ?_
  rintro e z1 ⟨rfl, t⟩
  have Zt := hpB Zt t
  have ee := ee.trans (t.mono ee.size)
  clear t
  clear HF
  have x0 := rowCell Zt 0 (v := .int .i64 1) (by rw [← hk]; rfl)
  clear hk
  go_wp2_with fail
  have sz_ := ee.size
  refine (put_s (H.out.belowM ee hB) (by omega) (Nat.le_trans hB ee.size) 1 (by omega) 1).mono ?_
  rintro e z2 ⟨v1, rfl, g1, t, fr⟩
  have fr := Fresh.mono fr sz_
  clear sz_
  have Zt := hpB Zt t
  have ee := ee.trans (t.mono ee.size)
  clear t
  have x0 := rowCell Zt 0 (v := .int .i64 1) HX0.out
  go_upto_region 6 with fail
  refine wp_region_lit ?_
  iterate 27 (first | with_reducible refine isLoad (ty := 34) rfl ?_ | go_step)
  refine wpList_load_mid rfl 34 _ rfl (w.heap.size) 1 rfl ([.int .i64 x.s, .int .i64 x.q, .slice x.A1 x.rs.length x.c1, .slice x.A2 x.ws.length x.c2]) _ (rowMid Zt 1 (by intro j v hj; match j, hj with | 0, hj => exact hj | 1, hj => exact hj | 2, hj => exact hj | 3, hj => exact hj)) Tryd.underlying34 rfl sizeTx ?_
  clear x0
  go_wp2_with fail
  have sz_ := ee.size
  refine (tput_s g1 (by omega) (Nat.le_refl _) x.s x.q x.rs x.ws x.A1 x.c1 x.A2 x.c2 (TxOk.more (TxOk.below HO.out ee (Nat.le_refl _)) ee.size) (HT.out.below ee)).mono ?_
  rintro e z3 ⟨v2, rfl, g2, t, fr⟩
  have fr := Fresh.mono fr sz_
  clear sz_
  have Zt := hpB Zt t
  have ee := ee.trans (t.mono ee.size)
  clear t
  go_wp2_with fail
  go_ret
  exact ⟨v2, rfl, g2, ee, fr⟩
set_option maxHeartbeats 3200000 in
theorem cput_2 {w : World} {B : Nat} {v : Value} {l : List UInt8} (h : SlB w B v l) (hl : l.length ≤ 2147483648) (hB : B ≤ w.heap.size) (x : Cm) (ok : CmOk w w.heap.size x) (hT : Tabs w) (hf : x.formed = true) (hk : x.k = 2) (gn : Nat) (hg : x.g = (gn : Int)) (hg4 : gn < 4) (hst : x.st < 9223372036854775808) : Calls Tryd.prog 29 #[v, .agg x.cells.toArray] w (GotB w (C.put (C.put (idput (C.put l 2 1) x.i x.j) gn 1) x.st 8)) := by
  have HX0 : Hid (x.cells[0]? = some (.int .i64 2)) := by show _ = _; rw [← hk]; rfl
  have HX7 : Hid (x.cells[7]? = some (.int .i64 (gn : Int))) := by show _ = _; rw [← hg]; rfl
  have HL2 := idput_len (C.put l 2 1) x.i x.j
  have HL3 := put_len2 (idput (C.put l 2 1) x.i x.j) gn 1
  have k1 : IntKind.u64.wrap (gn : Int) = (gn : Int) := wrapOf (by omega)
  clear hg
  have HT := Lib.hid hT
  have HF := Lib.hid (fun z (hz : Below w.heap.size w z) => cformed_any x.k x.s x.q x.rs x.ws x.A1 x.c1 x.A2 x.c2 x.i x.j x.g x.st x.y z w.heap.size hz.size (ok.below hz (Nat.le_refl _)) (hT.below hz))
  have HFE : Hid (x.formed = T.cformed x.k x.s x.q x.rs x.ws x.i x.j x.g x.st x.y) := rfl
  rw [← HFE.out, hf] at HF
  have HO := Lib.hid ok
  clear hT ok hf HFE
  have HL1 := put_len2 l 2 1
  obtain ⟨w0, hw0⟩ : ∃ w0, w0 = w.alloc (.cells x.cells.toArray 37) := ⟨_, rfl⟩
  have ee : Below w.heap.size w w0 := by rw [hw0]; exact (Below.refl _ _).alloc (Nat.le_refl _) _
  have Zt : w0.heap[w.heap.size]? = some (.cells x.cells.toArray 37) := by rw [hw0]; exact hpN _ _ rfl
  have H := Lib.hid h
  clear h
  go_enter Tryd.func29, Tryd.ntmps29
  go_upto_region 1 with fail
  rw [← hw0]
  clear hw0
  refine wp_region_lit ?_
  refine wpList_load_mid rfl 37 _ rfl (w.heap.size) 0 rfl x.cells _ (rowAt Zt) Tryd.underlying37 rfl sizeCm ?_
  go_wp2_with fail
  refine (HF.out w0 ee).mono ?_
  rintro e z1 ⟨rfl, t⟩
  have Zt := hpB Zt t
  have ee := ee.trans (t.mono ee.size)
  clear t
  clear HF
  have x0 := rowCell Zt 0 (v := .int .i64 2) (by rw [← hk]; rfl)
  clear hk
  go_wp2_with fail
  have sz_ := ee.size
  refine (put_s (H.out.belowM ee hB) (by omega) (Nat.le_trans hB ee.size) 2 (by omega) 1).mono ?_
  rintro e z2 ⟨v1, rfl, g1, t, fr⟩
  have fr := Fresh.mono fr sz_
  clear sz_
  have Zt := hpB Zt t
  have ee := ee.trans (t.mono ee.size)
  clear t
  have x0 := rowCell Zt 0 (v := .int .i64 2) HX0.out
  go_upto_region 8 with fail
  clear x0
  have g1 : SlB z2.drew z2.drew.heap.size v1 (C.put l 2 1) := g1.drew
  have Zt : z2.drew.heap[w.heap.size]? = some (.cells x.cells.toArray 37) := Zt
  have ee := belowDrewS ee
  refine wp_region_held_drew (S := fun z' => z'.rangeAt w.heap.size 5 [.int .i64 x.i, .int .i64 x.j] ∧ z'.cell? ⟨w.heap.size, 7, none⟩ = some (.int .i64 (gn : Int)) ∧ z'.cell? ⟨w.heap.size, 8, none⟩ = some (.int .u64 (x.st : Int))) (by kernel_rfl) ⟨rowMid Zt 5 (by intro j v hj; match j, hj with | 0, hj => exact hj | 1, hj => exact hj), rowCell Zt 7 HX7.out, rowCell Zt 8 rfl⟩ (fun hH => ?_)
  clear hH
  generalize z2.drew = z3 at Zt g1 ee ⊢
  refine wpAnyH_take (i := 0) (v := v1) rfl (by kernel_rfl) (by kernel_rfl) (by kernel_rfl) (fun _ _ _ h => h) (Or.inl ⟨by rfl, fun w_ hS_ => by (first | (go_simp; done) | (go_simp; rfl))⟩) ⟨rowMid Zt 5 (by intro j v hj; match j, hj with | 0, hj => exact hj | 1, hj => exact hj), rowCell Zt 7 HX7.out, rowCell Zt 8 rfl⟩ ?_
  try simp only [Act.put, List.getElem_toArray, List.getElem_cons_zero, List.getElem_cons_succ, List.setIfInBounds_toArray, List.set_cons_zero, List.set_cons_succ]
  refine wpAnyH_take (i := 1) (v := .pointer (some ⟨w.heap.size, 5, none⟩)) rfl (by kernel_rfl) (by kernel_rfl) (by kernel_rfl) (fun _ _ _ h => h) (Or.inl ⟨by rfl, fun w_ hS_ => by (first | (go_simp; done) | (go_simp; rfl))⟩) ⟨rowMid Zt 5 (by intro j v hj; match j, hj with | 0, hj => exact hj | 1, hj => exact hj), rowCell Zt 7 HX7.out, rowCell Zt 8 rfl⟩ ?_
  try simp only [Act.put, List.getElem_toArray, List.getElem_cons_zero, List.getElem_cons_succ, List.setIfInBounds_toArray, List.set_cons_zero, List.set_cons_succ]
  refine wpAnyH_take (i := 2) (v := .agg ([.int .i64 x.i, .int .i64 x.j]).toArray) rfl (by kernel_rfl) (by kernel_rfl) (by kernel_rfl) (fun _ _ _ h => h) (yieldsIf_load_mid (by rfl) 30 _ rfl (w.heap.size) (5) rfl ([.int .i64 x.i, .int .i64 x.j]) _ (fun _ h => h.1) Tryd.underlying30 rfl sizeId) ⟨rowMid Zt 5 (by intro j v hj; match j, hj with | 0, hj => exact hj | 1, hj => exact hj), rowCell Zt 7 HX7.out, rowCell Zt 8 rfl⟩ ?_
  try simp only [Act.put, List.getElem_toArray, List.getElem_cons_zero, List.getElem_cons_succ, List.setIfInBounds_toArray, List.set_cons_zero, List.set_cons_succ]
  refine wpAnyH_take (i := 4) (v := .pointer (some ⟨w.heap.size, 7, none⟩)) rfl (by kernel_rfl) (by kernel_rfl) (by kernel_rfl) (fun _ _ _ h => h) (Or.inl ⟨by rfl, fun w_ hS_ => by (first | (go_simp; done) | (go_simp; rfl))⟩) ⟨rowMid Zt 5 (by intro j v hj; match j, hj with | 0, hj => exact hj | 1, hj => exact hj), rowCell Zt 7 HX7.out, rowCell Zt 8 rfl⟩ ?_
  try simp only [Act.put, List.getElem_toArray, List.getElem_cons_zero, List.getElem_cons_succ, List.setIfInBounds_toArray, List.set_cons_zero, List.set_cons_succ]
  refine wpAnyH_take (i := 5) (v := .int .i64 (gn : Int)) rfl (by kernel_rfl) (by kernel_rfl) (by kernel_rfl) (fun _ _ _ h => h) (Or.inl ⟨by rfl, fun w_ hS_ => by (obtain ⟨h1_, h2_, h3_⟩ := hS_; go_simp)⟩) ⟨rowMid Zt 5 (by intro j v hj; match j, hj with | 0, hj => exact hj | 1, hj => exact hj), rowCell Zt 7 HX7.out, rowCell Zt 8 rfl⟩ ?_
  try simp only [Act.put, List.getElem_toArray, List.getElem_cons_zero, List.getElem_cons_succ, List.setIfInBounds_toArray, List.set_cons_zero, List.set_cons_succ]
  refine wpAnyH_take (i := 6) (v := .int .u64 (gn : Int)) rfl (by kernel_rfl) (by kernel_rfl) (by kernel_rfl) (fun _ _ _ h => h) (Or.inl ⟨by rfl, fun w_ hS_ => by (go_simp; first | done | (rw [k1]))⟩) ⟨rowMid Zt 5 (by intro j v hj; match j, hj with | 0, hj => exact hj | 1, hj => exact hj), rowCell Zt 7 HX7.out, rowCell Zt 8 rfl⟩ ?_
  try simp only [Act.put, List.getElem_toArray, List.getElem_cons_zero, List.getElem_cons_succ, List.setIfInBounds_toArray, List.set_cons_zero, List.set_cons_succ]
  refine wpAnyH_take (i := 8) (v := .pointer (some ⟨w.heap.size, 8, none⟩)) rfl (by kernel_rfl) (by kernel_rfl) (by kernel_rfl) (fun _ _ _ h => h) (Or.inl ⟨by rfl, fun w_ hS_ => by (first | (go_simp; done) | (go_simp; rfl))⟩) ⟨rowMid Zt 5 (by intro j v hj; match j, hj with | 0, hj => exact hj | 1, hj => exact hj), rowCell Zt 7 HX7.out, rowCell Zt 8 rfl⟩ ?_
  try simp only [Act.put, List.getElem_toArray, List.getElem_cons_zero, List.getElem_cons_succ, List.setIfInBounds_toArray, List.set_cons_zero, List.set_cons_succ]
  refine wpAnyH_take (i := 9) (v := .int .u64 (x.st : Int)) rfl (by kernel_rfl) (by kernel_rfl) (by kernel_rfl) (fun _ _ _ h => h) (Or.inl ⟨by rfl, fun w_ hS_ => by (obtain ⟨h1_, h2_, h3_⟩ := hS_; go_simp)⟩) ⟨rowMid Zt 5 (by intro j v hj; match j, hj with | 0, hj => exact hj | 1, hj => exact hj), rowCell Zt 7 HX7.out, rowCell Zt 8 rfl⟩ ?_
  try simp only [Act.put, List.getElem_toArray, List.getElem_cons_zero, List.getElem_cons_succ, List.setIfInBounds_toArray, List.set_cons_zero, List.set_cons_succ]
  refine wpAnyH_ready (rs := [3]) (by kernel_rfl) (by simp) ?_
  refine AllReadyH.cons rfl (fun K hK => ?_) AllReadyH.nil
  rw [if_pos (by rfl)]
  go_simp
  have sz_ := ee.size
  go_wp2_with (go_at_call 57; refine (putid_s g1 (by omega) (Nat.le_refl _) x.i x.j).mono ?_; rintro e z4 ⟨v2, rfl, g2, t, fr⟩)
  have fr := Fresh.mono fr sz_
  clear sz_
  have Zt := hpB Zt t
  have ee := ee.trans (t.mono ee.size)
  clear t
  refine hK.out _ _ ⟨rowMid Zt 5 (by intro j v hj; match j, hj with | 0, hj => exact hj | 1, hj => exact hj), rowCell Zt 7 HX7.out, rowCell Zt 8 rfl⟩ (fun hH => ?_)
  clear hK K hH
  try simp only [Act.put, List.getElem_toArray, List.getElem_cons_zero, List.getElem_cons_succ, List.setIfInBounds_toArray, List.set_cons_zero, List.set_cons_succ]
  refine wpAnyH_ready (rs := [7]) (by kernel_rfl) (by simp) ?_
  refine AllReadyH.cons rfl (fun K hK => ?_) AllReadyH.nil
  rw [if_pos (by rfl)]
  go_simp
  have sz_ := ee.size
  go_wp2_with (go_at_call 55; refine (put_s g2 (by omega) (Nat.le_refl _) gn (by omega) 1).mono ?_; rintro e z5 ⟨v3, rfl, g3, t, fr⟩)
  have fr := Fresh.mono fr sz_
  clear sz_
  have Zt := hpB Zt t
  have ee := ee.trans (t.mono ee.size)
  clear t
  refine hK.out _ _ ⟨rowMid Zt 5 (by intro j v hj; match j, hj with | 0, hj => exact hj | 1, hj => exact hj), rowCell Zt 7 HX7.out, rowCell Zt 8 rfl⟩ (fun hH => ?_)
  clear hK K hH
  try simp only [Act.put, List.getElem_toArray, List.getElem_cons_zero, List.getElem_cons_succ, List.setIfInBounds_toArray, List.set_cons_zero, List.set_cons_succ]
  refine wpAnyH_ready (rs := [10]) (by kernel_rfl) (by simp) ?_
  refine AllReadyH.cons rfl (fun K hK => ?_) AllReadyH.nil
  rw [if_pos (by rfl)]
  go_simp
  have sz_ := ee.size
  go_wp2_with (go_at_call 55; refine (put_s g3 (by omega) (Nat.le_refl _) x.st (by omega) 8).mono ?_; rintro e z6 ⟨v4, rfl, g4, t, fr⟩)
  have fr := Fresh.mono fr sz_
  clear sz_
  have Zt := hpB Zt t
  have ee := ee.trans (t.mono ee.size)
  clear t
  refine hK.out _ _ ⟨rowMid Zt 5 (by intro j v hj; match j, hj with | 0, hj => exact hj | 1, hj => exact hj), rowCell Zt 7 HX7.out, rowCell Zt 8 rfl⟩ (fun hH => ?_)
  clear hK K hH
  try simp only [Act.put, List.getElem_toArray, List.getElem_cons_zero, List.getElem_cons_succ, List.setIfInBounds_toArray, List.set_cons_zero, List.set_cons_succ]
  refine wpAnyH_take (i := 11) (v := v4) rfl (by kernel_rfl) (by kernel_rfl) (by kernel_rfl) (fun _ _ _ h => h) (Or.inl ⟨by rfl, fun w_ hS_ => by (first | (go_simp; done) | (go_simp; rfl))⟩) ⟨rowMid Zt 5 (by intro j v hj; match j, hj with | 0, hj => exact hj | 1, hj => exact hj), rowCell Zt 7 HX7.out, rowCell Zt 8 rfl⟩ ?_
  try simp only [Act.put, List.getElem_toArray, List.getElem_cons_zero, List.getElem_cons_succ, List.setIfInBounds_toArray, List.set_cons_zero, List.set_cons_succ]
  refine wpAnyH_done (by kernel_rfl) ?_ _
  go_wp2_with fail
  go_ret
  exact ⟨v4, rfl, g4, ee, fr⟩
set_option maxHeartbeats 3200000 in
theorem cput_3f {w : World} {B : Nat} {v : Value} {l : List UInt8} (h : SlB w B v l) (hl : l.length ≤ 2147483648) (hB : B ≤ w.heap.size) (x : Cm) (ok : CmOk w w.heap.size x) (hT : Tabs w) (hf : x.formed = true) (hk : x.k = 3) (gn : Nat) (hg : x.g = (gn : Int)) (hg4 : gn < 4) (hy : x.y = false) : Calls Tryd.prog 29 #[v, .agg x.cells.toArray] w (GotB w (C.put (C.put (idput (C.put l 3 1) x.i x.j) gn 1) 0 1)) := by
  have HX0 : Hid (x.cells[0]? = some (.int .i64 3)) := by show _ = _; rw [← hk]; rfl
  have HX9 : Hid (x.cells[9]? = some (.bool false)) := by show _ = _; rw [← hy]; rfl
  clear hy
  have HX7 : Hid (x.cells[7]? = some (.int .i64 (gn : Int))) := by show _ = _; rw [← hg]; rfl
  have HL2 := idput_len (C.put l 3 1) x.i x.j
  have HL3 := put_len2 (idput (C.put l 3 1) x.i x.j) gn 1
  have k1 : IntKind.u64.wrap (gn : Int) = (gn : Int) := wrapOf (by omega)
  clear hg
  have HT := Lib.hid hT
  have HF := Lib.hid (fun z (hz : Below w.heap.size w z) => cformed_any x.k x.s x.q x.rs x.ws x.A1 x.c1 x.A2 x.c2 x.i x.j x.g x.st x.y z w.heap.size hz.size (ok.below hz (Nat.le_refl _)) (hT.below hz))
  have HFE : Hid (x.formed = T.cformed x.k x.s x.q x.rs x.ws x.i x.j x.g x.st x.y) := rfl
  rw [← HFE.out, hf] at HF
  have HO := Lib.hid ok
  clear hT ok hf HFE
  have HL1 := put_len2 l 3 1
  obtain ⟨w0, hw0⟩ : ∃ w0, w0 = w.alloc (.cells x.cells.toArray 37) := ⟨_, rfl⟩
  have ee : Below w.heap.size w w0 := by rw [hw0]; exact (Below.refl _ _).alloc (Nat.le_refl _) _
  have Zt : w0.heap[w.heap.size]? = some (.cells x.cells.toArray 37) := by rw [hw0]; exact hpN _ _ rfl
  have H := Lib.hid h
  clear h
  go_enter Tryd.func29, Tryd.ntmps29
  go_upto_region 1 with fail
  rw [← hw0]
  clear hw0
  refine wp_region_lit ?_
  refine wpList_load_mid rfl 37 _ rfl (w.heap.size) 0 rfl x.cells _ (rowAt Zt) Tryd.underlying37 rfl sizeCm ?_
  go_wp2_with fail
  refine (HF.out w0 ee).mono ?_
  rintro e z1 ⟨rfl, t⟩
  have Zt := hpB Zt t
  have ee := ee.trans (t.mono ee.size)
  clear t
  clear HF
  have x0 := rowCell Zt 0 (v := .int .i64 3) (by rw [← hk]; rfl)
  clear hk
  go_wp2_with fail
  have sz_ := ee.size
  refine (put_s (H.out.belowM ee hB) (by omega) (Nat.le_trans hB ee.size) 3 (by omega) 1).mono ?_
  rintro e z2 ⟨v1, rfl, g1, t, fr⟩
  have fr := Fresh.mono fr sz_
  clear sz_
  have Zt := hpB Zt t
  have ee := ee.trans (t.mono ee.size)
  clear t
  have x0 := rowCell Zt 0 (v := .int .i64 3) HX0.out
  have x9 := rowCell Zt 9 (v := .bool false) HX9.out
  go_upto_region 13 with fail
  clear x0 x9
  have g1 : SlB z2.drew z2.drew.heap.size v1 (C.put l 3 1) := g1.drew
  have Zt : z2.drew.heap[w.heap.size]? = some (.cells x.cells.toArray 37) := Zt
  have ee := belowDrewS ee
  refine wp_region_held_drew (S := fun z' => z'.rangeAt w.heap.size 5 [.int .i64 x.i, .int .i64 x.j] ∧ z'.cell? ⟨w.heap.size, 7, none⟩ = some (.int .i64 (gn : Int))) (by kernel_rfl) ⟨rowMid Zt 5 (by intro j v hj; match j, hj with | 0, hj => exact hj | 1, hj => exact hj), rowCell Zt 7 HX7.out⟩ (fun hH => ?_)
  clear hH
  generalize z2.drew = z3 at Zt g1 ee ⊢
  refine wpAnyH_take (i := 0) (v := v1) rfl (by kernel_rfl) (by kernel_rfl) (by kernel_rfl) (fun _ _ _ h => h) (Or.inl ⟨by rfl, fun w_ hS_ => by (first | (go_simp; done) | (go_simp; rfl))⟩) ⟨rowMid Zt 5 (by intro j v hj; match j, hj with | 0, hj => exact hj | 1, hj => exact hj), rowCell Zt 7 HX7.out⟩ ?_
  try simp only [Act.put, List.getElem_toArray, List.getElem_cons_zero, List.getElem_cons_succ, List.setIfInBounds_toArray, List.set_cons_zero, List.set_cons_succ]
  refine wpAnyH_take (i := 1) (v := .pointer (some ⟨w.heap.size, 5, none⟩)) rfl (by kernel_rfl) (by kernel_rfl) (by kernel_rfl) (fun _ _ _ h => h) (Or.inl ⟨by rfl, fun w_ hS_ => by (first | (go_simp; done) | (go_simp; rfl))⟩) ⟨rowMid Zt 5 (by intro j v hj; match j, hj with | 0, hj => exact hj | 1, hj => exact hj), rowCell Zt 7 HX7.out⟩ ?_
  try simp only [Act.put, List.getElem_toArray, List.getElem_cons_zero, List.getElem_cons_succ, List.setIfInBounds_toArray, List.set_cons_zero, List.set_cons_succ]
  refine wpAnyH_take (i := 2) (v := .agg ([.int .i64 x.i, .int .i64 x.j]).toArray) rfl (by kernel_rfl) (by kernel_rfl) (by kernel_rfl) (fun _ _ _ h => h) (yieldsIf_load_mid (by rfl) 30 _ rfl (w.heap.size) (5) rfl ([.int .i64 x.i, .int .i64 x.j]) _ (fun _ h => h.1) Tryd.underlying30 rfl sizeId) ⟨rowMid Zt 5 (by intro j v hj; match j, hj with | 0, hj => exact hj | 1, hj => exact hj), rowCell Zt 7 HX7.out⟩ ?_
  try simp only [Act.put, List.getElem_toArray, List.getElem_cons_zero, List.getElem_cons_succ, List.setIfInBounds_toArray, List.set_cons_zero, List.set_cons_succ]
  refine wpAnyH_take (i := 4) (v := .pointer (some ⟨w.heap.size, 7, none⟩)) rfl (by kernel_rfl) (by kernel_rfl) (by kernel_rfl) (fun _ _ _ h => h) (Or.inl ⟨by rfl, fun w_ hS_ => by (first | (go_simp; done) | (go_simp; rfl))⟩) ⟨rowMid Zt 5 (by intro j v hj; match j, hj with | 0, hj => exact hj | 1, hj => exact hj), rowCell Zt 7 HX7.out⟩ ?_
  try simp only [Act.put, List.getElem_toArray, List.getElem_cons_zero, List.getElem_cons_succ, List.setIfInBounds_toArray, List.set_cons_zero, List.set_cons_succ]
  refine wpAnyH_take (i := 5) (v := .int .i64 (gn : Int)) rfl (by kernel_rfl) (by kernel_rfl) (by kernel_rfl) (fun _ _ _ h => h) (Or.inl ⟨by rfl, fun w_ hS_ => by (obtain ⟨h1_, h2_⟩ := hS_; go_simp)⟩) ⟨rowMid Zt 5 (by intro j v hj; match j, hj with | 0, hj => exact hj | 1, hj => exact hj), rowCell Zt 7 HX7.out⟩ ?_
  try simp only [Act.put, List.getElem_toArray, List.getElem_cons_zero, List.getElem_cons_succ, List.setIfInBounds_toArray, List.set_cons_zero, List.set_cons_succ]
  refine wpAnyH_take (i := 6) (v := .int .u64 (gn : Int)) rfl (by kernel_rfl) (by kernel_rfl) (by kernel_rfl) (fun _ _ _ h => h) (Or.inl ⟨by rfl, fun w_ hS_ => by (go_simp; first | done | (rw [k1]))⟩) ⟨rowMid Zt 5 (by intro j v hj; match j, hj with | 0, hj => exact hj | 1, hj => exact hj), rowCell Zt 7 HX7.out⟩ ?_
  try simp only [Act.put, List.getElem_toArray, List.getElem_cons_zero, List.getElem_cons_succ, List.setIfInBounds_toArray, List.set_cons_zero, List.set_cons_succ]
  refine wpAnyH_take (i := 8) (v := .int .u64 0) rfl (by kernel_rfl) (by kernel_rfl) (by kernel_rfl) (fun _ _ _ h => h) (Or.inl ⟨by rfl, fun w_ hS_ => by (first | (go_simp; done) | (go_simp; rfl))⟩) ⟨rowMid Zt 5 (by intro j v hj; match j, hj with | 0, hj => exact hj | 1, hj => exact hj), rowCell Zt 7 HX7.out⟩ ?_
  try simp only [Act.put, List.getElem_toArray, List.getElem_cons_zero, List.getElem_cons_succ, List.setIfInBounds_toArray, List.set_cons_zero, List.set_cons_succ]
  refine wpAnyH_ready (rs := [3]) (by kernel_rfl) (by simp) ?_
  refine AllReadyH.cons rfl (fun K hK => ?_) AllReadyH.nil
  rw [if_pos (by rfl)]
  go_simp
  have sz_ := ee.size
  go_wp2_with (go_at_call 57; refine (putid_s g1 (by omega) (Nat.le_refl _) x.i x.j).mono ?_; rintro e z4 ⟨v2, rfl, g2, t, fr⟩)
  have fr := Fresh.mono fr sz_
  clear sz_
  have Zt := hpB Zt t
  have ee := ee.trans (t.mono ee.size)
  clear t
  refine hK.out _ _ ⟨rowMid Zt 5 (by intro j v hj; match j, hj with | 0, hj => exact hj | 1, hj => exact hj), rowCell Zt 7 HX7.out⟩ (fun hH => ?_)
  clear hK K hH
  try simp only [Act.put, List.getElem_toArray, List.getElem_cons_zero, List.getElem_cons_succ, List.setIfInBounds_toArray, List.set_cons_zero, List.set_cons_succ]
  refine wpAnyH_ready (rs := [7]) (by kernel_rfl) (by simp) ?_
  refine AllReadyH.cons rfl (fun K hK => ?_) AllReadyH.nil
  rw [if_pos (by rfl)]
  go_simp
  have sz_ := ee.size
  go_wp2_with (go_at_call 55; refine (put_s g2 (by omega) (Nat.le_refl _) gn (by omega) 1).mono ?_; rintro e z5 ⟨v3, rfl, g3, t, fr⟩)
  have fr := Fresh.mono fr sz_
  clear sz_
  have Zt := hpB Zt t
  have ee := ee.trans (t.mono ee.size)
  clear t
  refine hK.out _ _ ⟨rowMid Zt 5 (by intro j v hj; match j, hj with | 0, hj => exact hj | 1, hj => exact hj), rowCell Zt 7 HX7.out⟩ (fun hH => ?_)
  clear hK K hH
  try simp only [Act.put, List.getElem_toArray, List.getElem_cons_zero, List.getElem_cons_succ, List.setIfInBounds_toArray, List.set_cons_zero, List.set_cons_succ]
  refine wpAnyH_ready (rs := [9]) (by kernel_rfl) (by simp) ?_
  refine AllReadyH.cons rfl (fun K hK => ?_) AllReadyH.nil
  rw [if_pos (by rfl)]
  go_simp
  have sz_ := ee.size
  go_wp2_with (go_at_call 55; refine (put_s g3 (by omega) (Nat.le_refl _) 0 (by omega) 1).mono ?_; rintro e z6 ⟨v4, rfl, g4, t, fr⟩)
  have fr := Fresh.mono fr sz_
  clear sz_
  have Zt := hpB Zt t
  have ee := ee.trans (t.mono ee.size)
  clear t
  refine hK.out _ _ ⟨rowMid Zt 5 (by intro j v hj; match j, hj with | 0, hj => exact hj | 1, hj => exact hj), rowCell Zt 7 HX7.out⟩ (fun hH => ?_)
  clear hK K hH
  try simp only [Act.put, List.getElem_toArray, List.getElem_cons_zero, List.getElem_cons_succ, List.setIfInBounds_toArray, List.set_cons_zero, List.set_cons_succ]
  refine wpAnyH_take (i := 10) (v := v4) rfl (by kernel_rfl) (by kernel_rfl) (by kernel_rfl) (fun _ _ _ h => h) (Or.inl ⟨by rfl, fun w_ hS_ => by (first | (go_simp; done) | (go_simp; rfl))⟩) ⟨rowMid Zt 5 (by intro j v hj; match j, hj with | 0, hj => exact hj | 1, hj => exact hj), rowCell Zt 7 HX7.out⟩ ?_
  try simp only [Act.put, List.getElem_toArray, List.getElem_cons_zero, List.getElem_cons_succ, List.setIfInBounds_toArray, List.set_cons_zero, List.set_cons_succ]
  refine wpAnyH_done (by kernel_rfl) ?_ _
  go_wp2_with fail
  go_ret
  exact ⟨v4, rfl, g4, ee, fr⟩
set_option maxHeartbeats 3200000 in
theorem cput_3t {w : World} {B : Nat} {v : Value} {l : List UInt8} (h : SlB w B v l) (hl : l.length ≤ 2147483648) (hB : B ≤ w.heap.size) (x : Cm) (ok : CmOk w w.heap.size x) (hT : Tabs w) (hf : x.formed = true) (hk : x.k = 3) (gn : Nat) (hg : x.g = (gn : Int)) (hg4 : gn < 4) (hy : x.y = true) : Calls Tryd.prog 29 #[v, .agg x.cells.toArray] w (GotB w (C.put (C.put (idput (C.put l 3 1) x.i x.j) gn 1) 1 1)) := by
  have HX0 : Hid (x.cells[0]? = some (.int .i64 3)) := by show _ = _; rw [← hk]; rfl
  have HX9 : Hid (x.cells[9]? = some (.bool true)) := by show _ = _; rw [← hy]; rfl
  clear hy
  have HX7 : Hid (x.cells[7]? = some (.int .i64 (gn : Int))) := by show _ = _; rw [← hg]; rfl
  have HL2 := idput_len (C.put l 3 1) x.i x.j
  have HL3 := put_len2 (idput (C.put l 3 1) x.i x.j) gn 1
  have k1 : IntKind.u64.wrap (gn : Int) = (gn : Int) := wrapOf (by omega)
  clear hg
  have HT := Lib.hid hT
  have HF := Lib.hid (fun z (hz : Below w.heap.size w z) => cformed_any x.k x.s x.q x.rs x.ws x.A1 x.c1 x.A2 x.c2 x.i x.j x.g x.st x.y z w.heap.size hz.size (ok.below hz (Nat.le_refl _)) (hT.below hz))
  have HFE : Hid (x.formed = T.cformed x.k x.s x.q x.rs x.ws x.i x.j x.g x.st x.y) := rfl
  rw [← HFE.out, hf] at HF
  have HO := Lib.hid ok
  clear hT ok hf HFE
  have HL1 := put_len2 l 3 1
  obtain ⟨w0, hw0⟩ : ∃ w0, w0 = w.alloc (.cells x.cells.toArray 37) := ⟨_, rfl⟩
  have ee : Below w.heap.size w w0 := by rw [hw0]; exact (Below.refl _ _).alloc (Nat.le_refl _) _
  have Zt : w0.heap[w.heap.size]? = some (.cells x.cells.toArray 37) := by rw [hw0]; exact hpN _ _ rfl
  have H := Lib.hid h
  clear h
  go_enter Tryd.func29, Tryd.ntmps29
  go_upto_region 1 with fail
  rw [← hw0]
  clear hw0
  refine wp_region_lit ?_
  refine wpList_load_mid rfl 37 _ rfl (w.heap.size) 0 rfl x.cells _ (rowAt Zt) Tryd.underlying37 rfl sizeCm ?_
  go_wp2_with fail
  refine (HF.out w0 ee).mono ?_
  rintro e z1 ⟨rfl, t⟩
  have Zt := hpB Zt t
  have ee := ee.trans (t.mono ee.size)
  clear t
  clear HF
  have x0 := rowCell Zt 0 (v := .int .i64 3) (by rw [← hk]; rfl)
  clear hk
  go_wp2_with fail
  have sz_ := ee.size
  refine (put_s (H.out.belowM ee hB) (by omega) (Nat.le_trans hB ee.size) 3 (by omega) 1).mono ?_
  rintro e z2 ⟨v1, rfl, g1, t, fr⟩
  have fr := Fresh.mono fr sz_
  clear sz_
  have Zt := hpB Zt t
  have ee := ee.trans (t.mono ee.size)
  clear t
  have x0 := rowCell Zt 0 (v := .int .i64 3) HX0.out
  have x9 := rowCell Zt 9 (v := .bool true) HX9.out
  go_upto_region 13 with fail
  clear x0 x9
  have g1 : SlB z2.drew z2.drew.heap.size v1 (C.put l 3 1) := g1.drew
  have Zt : z2.drew.heap[w.heap.size]? = some (.cells x.cells.toArray 37) := Zt
  have ee := belowDrewS ee
  refine wp_region_held_drew (S := fun z' => z'.rangeAt w.heap.size 5 [.int .i64 x.i, .int .i64 x.j] ∧ z'.cell? ⟨w.heap.size, 7, none⟩ = some (.int .i64 (gn : Int))) (by kernel_rfl) ⟨rowMid Zt 5 (by intro j v hj; match j, hj with | 0, hj => exact hj | 1, hj => exact hj), rowCell Zt 7 HX7.out⟩ (fun hH => ?_)
  clear hH
  generalize z2.drew = z3 at Zt g1 ee ⊢
  refine wpAnyH_take (i := 0) (v := v1) rfl (by kernel_rfl) (by kernel_rfl) (by kernel_rfl) (fun _ _ _ h => h) (Or.inl ⟨by rfl, fun w_ hS_ => by (first | (go_simp; done) | (go_simp; rfl))⟩) ⟨rowMid Zt 5 (by intro j v hj; match j, hj with | 0, hj => exact hj | 1, hj => exact hj), rowCell Zt 7 HX7.out⟩ ?_
  try simp only [Act.put, List.getElem_toArray, List.getElem_cons_zero, List.getElem_cons_succ, List.setIfInBounds_toArray, List.set_cons_zero, List.set_cons_succ]
  refine wpAnyH_take (i := 1) (v := .pointer (some ⟨w.heap.size, 5, none⟩)) rfl (by kernel_rfl) (by kernel_rfl) (by kernel_rfl) (fun _ _ _ h => h) (Or.inl ⟨by rfl, fun w_ hS_ => by (first | (go_simp; done) | (go_simp; rfl))⟩) ⟨rowMid Zt 5 (by intro j v hj; match j, hj with | 0, hj => exact hj | 1, hj => exact hj), rowCell Zt 7 HX7.out⟩ ?_
  try simp only [Act.put, List.getElem_toArray, List.getElem_cons_zero, List.getElem_cons_succ, List.setIfInBounds_toArray, List.set_cons_zero, List.set_cons_succ]
  refine wpAnyH_take (i := 2) (v := .agg ([.int .i64 x.i, .int .i64 x.j]).toArray) rfl (by kernel_rfl) (by kernel_rfl) (by kernel_rfl) (fun _ _ _ h => h) (yieldsIf_load_mid (by rfl) 30 _ rfl (w.heap.size) (5) rfl ([.int .i64 x.i, .int .i64 x.j]) _ (fun _ h => h.1) Tryd.underlying30 rfl sizeId) ⟨rowMid Zt 5 (by intro j v hj; match j, hj with | 0, hj => exact hj | 1, hj => exact hj), rowCell Zt 7 HX7.out⟩ ?_
  try simp only [Act.put, List.getElem_toArray, List.getElem_cons_zero, List.getElem_cons_succ, List.setIfInBounds_toArray, List.set_cons_zero, List.set_cons_succ]
  refine wpAnyH_take (i := 4) (v := .pointer (some ⟨w.heap.size, 7, none⟩)) rfl (by kernel_rfl) (by kernel_rfl) (by kernel_rfl) (fun _ _ _ h => h) (Or.inl ⟨by rfl, fun w_ hS_ => by (first | (go_simp; done) | (go_simp; rfl))⟩) ⟨rowMid Zt 5 (by intro j v hj; match j, hj with | 0, hj => exact hj | 1, hj => exact hj), rowCell Zt 7 HX7.out⟩ ?_
  try simp only [Act.put, List.getElem_toArray, List.getElem_cons_zero, List.getElem_cons_succ, List.setIfInBounds_toArray, List.set_cons_zero, List.set_cons_succ]
  refine wpAnyH_take (i := 5) (v := .int .i64 (gn : Int)) rfl (by kernel_rfl) (by kernel_rfl) (by kernel_rfl) (fun _ _ _ h => h) (Or.inl ⟨by rfl, fun w_ hS_ => by (obtain ⟨h1_, h2_⟩ := hS_; go_simp)⟩) ⟨rowMid Zt 5 (by intro j v hj; match j, hj with | 0, hj => exact hj | 1, hj => exact hj), rowCell Zt 7 HX7.out⟩ ?_
  try simp only [Act.put, List.getElem_toArray, List.getElem_cons_zero, List.getElem_cons_succ, List.setIfInBounds_toArray, List.set_cons_zero, List.set_cons_succ]
  refine wpAnyH_take (i := 6) (v := .int .u64 (gn : Int)) rfl (by kernel_rfl) (by kernel_rfl) (by kernel_rfl) (fun _ _ _ h => h) (Or.inl ⟨by rfl, fun w_ hS_ => by (go_simp; first | done | (rw [k1]))⟩) ⟨rowMid Zt 5 (by intro j v hj; match j, hj with | 0, hj => exact hj | 1, hj => exact hj), rowCell Zt 7 HX7.out⟩ ?_
  try simp only [Act.put, List.getElem_toArray, List.getElem_cons_zero, List.getElem_cons_succ, List.setIfInBounds_toArray, List.set_cons_zero, List.set_cons_succ]
  refine wpAnyH_take (i := 8) (v := .int .u64 1) rfl (by kernel_rfl) (by kernel_rfl) (by kernel_rfl) (fun _ _ _ h => h) (Or.inl ⟨by rfl, fun w_ hS_ => by (first | (go_simp; done) | (go_simp; rfl))⟩) ⟨rowMid Zt 5 (by intro j v hj; match j, hj with | 0, hj => exact hj | 1, hj => exact hj), rowCell Zt 7 HX7.out⟩ ?_
  try simp only [Act.put, List.getElem_toArray, List.getElem_cons_zero, List.getElem_cons_succ, List.setIfInBounds_toArray, List.set_cons_zero, List.set_cons_succ]
  refine wpAnyH_ready (rs := [3]) (by kernel_rfl) (by simp) ?_
  refine AllReadyH.cons rfl (fun K hK => ?_) AllReadyH.nil
  rw [if_pos (by rfl)]
  go_simp
  have sz_ := ee.size
  go_wp2_with (go_at_call 57; refine (putid_s g1 (by omega) (Nat.le_refl _) x.i x.j).mono ?_; rintro e z4 ⟨v2, rfl, g2, t, fr⟩)
  have fr := Fresh.mono fr sz_
  clear sz_
  have Zt := hpB Zt t
  have ee := ee.trans (t.mono ee.size)
  clear t
  refine hK.out _ _ ⟨rowMid Zt 5 (by intro j v hj; match j, hj with | 0, hj => exact hj | 1, hj => exact hj), rowCell Zt 7 HX7.out⟩ (fun hH => ?_)
  clear hK K hH
  try simp only [Act.put, List.getElem_toArray, List.getElem_cons_zero, List.getElem_cons_succ, List.setIfInBounds_toArray, List.set_cons_zero, List.set_cons_succ]
  refine wpAnyH_ready (rs := [7]) (by kernel_rfl) (by simp) ?_
  refine AllReadyH.cons rfl (fun K hK => ?_) AllReadyH.nil
  rw [if_pos (by rfl)]
  go_simp
  have sz_ := ee.size
  go_wp2_with (go_at_call 55; refine (put_s g2 (by omega) (Nat.le_refl _) gn (by omega) 1).mono ?_; rintro e z5 ⟨v3, rfl, g3, t, fr⟩)
  have fr := Fresh.mono fr sz_
  clear sz_
  have Zt := hpB Zt t
  have ee := ee.trans (t.mono ee.size)
  clear t
  refine hK.out _ _ ⟨rowMid Zt 5 (by intro j v hj; match j, hj with | 0, hj => exact hj | 1, hj => exact hj), rowCell Zt 7 HX7.out⟩ (fun hH => ?_)
  clear hK K hH
  try simp only [Act.put, List.getElem_toArray, List.getElem_cons_zero, List.getElem_cons_succ, List.setIfInBounds_toArray, List.set_cons_zero, List.set_cons_succ]
  refine wpAnyH_ready (rs := [9]) (by kernel_rfl) (by simp) ?_
  refine AllReadyH.cons rfl (fun K hK => ?_) AllReadyH.nil
  rw [if_pos (by rfl)]
  go_simp
  have sz_ := ee.size
  go_wp2_with (go_at_call 55; refine (put_s g3 (by omega) (Nat.le_refl _) 1 (by omega) 1).mono ?_; rintro e z6 ⟨v4, rfl, g4, t, fr⟩)
  have fr := Fresh.mono fr sz_
  clear sz_
  have Zt := hpB Zt t
  have ee := ee.trans (t.mono ee.size)
  clear t
  refine hK.out _ _ ⟨rowMid Zt 5 (by intro j v hj; match j, hj with | 0, hj => exact hj | 1, hj => exact hj), rowCell Zt 7 HX7.out⟩ (fun hH => ?_)
  clear hK K hH
  try simp only [Act.put, List.getElem_toArray, List.getElem_cons_zero, List.getElem_cons_succ, List.setIfInBounds_toArray, List.set_cons_zero, List.set_cons_succ]
  refine wpAnyH_take (i := 10) (v := v4) rfl (by kernel_rfl) (by kernel_rfl) (by kernel_rfl) (fun _ _ _ h => h) (Or.inl ⟨by rfl, fun w_ hS_ => by (first | (go_simp; done) | (go_simp; rfl))⟩) ⟨rowMid Zt 5 (by intro j v hj; match j, hj with | 0, hj => exact hj | 1, hj => exact hj), rowCell Zt 7 HX7.out⟩ ?_
  try simp only [Act.put, List.getElem_toArray, List.getElem_cons_zero, List.getElem_cons_succ, List.setIfInBounds_toArray, List.set_cons_zero, List.set_cons_succ]
  refine wpAnyH_done (by kernel_rfl) ?_ _
  go_wp2_with fail
  go_ret
  exact ⟨v4, rfl, g4, ee, fr⟩
theorem cput_s {w : World} {B : Nat} {v : Value} {l : List UInt8} (h : SlB w B v l) (hl : l.length ≤ 2147483648) (hB : B ≤ w.heap.size) (x : Cm) (ok : CmOk w w.heap.size x) (hT : Tabs w) : Calls Tryd.prog 29 #[v, .agg x.cells.toArray] w (GotB w (cput l x)) := by
  unfold cput
  cases hf : x.formed with
  | false => exact cput_no h hl hB x ok hT hf
  | true =>
    rw [cond_true]
    rcases cformed_k hf with hk | hk | hk | hk
    · rw [if_neg (by omega), if_neg (by omega), if_neg (by omega)]; exact cput_0 h hl hB x ok hT hf hk
    · rw [if_pos hk]; exact cput_1 h hl hB x ok hT hf hk
    · rw [if_neg (by omega), if_pos hk]
      obtain ⟨_, _, h3, h4, h5, h6⟩ := cformed_2 hf hk
      exact cput_2 h hl hB x ok hT hf hk x.g.toNat (by omega) (by omega) h6
    · rw [if_neg (by omega), if_neg (by omega), if_pos hk]
      obtain ⟨_, _, h3, h4⟩ := cformed_3 hf hk
      cases hy : x.y with
      | false => exact cput_3f h hl hB x ok hT hf hk x.g.toNat (by omega) (by omega) hy
      | true => exact cput_3t h hl hB x ok hT hf hk x.g.toNat (by omega) (by omega) hy
end Go.Proofs.YtkfnepmiigkdfaaDoor

namespace Go.Proofs.YtkfnepmiigkdfaaDoor
set_option maxRecDepth 20001
open Go.RowKit T
set_option linter.unusedSimpArgs false
set_option linter.unusedVariables false

theorem belowNone {w w' : World} (h : w.grownBy w' none) : Below w.heap.size w w' := ⟨h.os, h.tape, h.output, h.size, fun i hi => h.block i hi (by simp)⟩
theorem byteOwn {w : World} {base x : Nat} {v : Value} {l : List UInt8} (h : w.ownsRow base 5 1 v (l.length + 1) (bc l ++ [.int .u8 (x : Int)])) (hx : x < 256) : w.ownsRow base 5 1 v (C.put l x 1).length (bc (C.put l x 1)) := by
  have e : (UInt8.ofNat x).toNat = x := by rw [UInt8.toNat_ofNat']; exact Nat.mod_eq_of_lt hx
  rw [put_one, bc_app, List.length_append]
  simpa [bc, e] using h
section
variable {z : World} {base : Nat} {v : Value} {l : List UInt8}
theorem rput_o (h : z.ownsRow base 5 1 v l.length (bc l)) (hl : l.length ≤ 549755813888) (x : Nat) (hx : x < 18446744073709551616) (n : Int) (hn1 : -1000 ≤ n) (hn2 : n ≤ 1000) : Calls Tryd.prog 69 #[v, .int .u64 (x : Int), .int .i64 n] z (MadeB z (C.put l x n)) := by
  obtain ⟨A, c, rfl, hc, hA, hm⟩ := ownShape h
  exact rput_any A c l x n z z.heap.size hl (fun h => ⟨List.eq_nil_of_length_eq_zero (hA h).1, (hA h).2⟩) (Rd.ofOwn h) (Nat.le_refl _) hx hn1 hn2
theorem rputtext_o (h : z.ownsRow base 5 1 v l.length (bc l)) (hl : l.length ≤ 274877906944) (s : ByteArray) (hs : s.size ≤ 9223372036854775807) : Calls Tryd.prog 88 #[v, .string s] z (MadeB z (C.putText l s.data.toList)) := by
  obtain ⟨A, c, rfl, hc, hA, hm⟩ := ownShape h
  exact rputtext_any A c l s z z.heap.size hl (fun h => ⟨List.eq_nil_of_length_eq_zero (hA h).1, (hA h).2⟩) (Rd.ofOwn h) (Nat.le_refl _) hs
theorem rvput_o (h : z.ownsRow base 5 1 v l.length (bc l)) (hl : l.length ≤ 137438953472) (k : Int) (b : Nat) (t : ByteArray) (bb : b < 18446744073709551616) (hs : t.size ≤ 9223372036854775807) : Calls Tryd.prog 89 #[v, .agg #[.int .i64 k, .int .u64 (b : Int), .string t]] z (MadeB z (V.put l k b t.data.toList)) := by
  obtain ⟨A, c, rfl, hc, hA, hm⟩ := ownShape h
  exact rvput_any A c l b t z z.heap.size k bb hs hl (fun h => ⟨List.eq_nil_of_length_eq_zero (hA h).1, (hA h).2⟩) (Rd.ofOwn h) (Nat.le_refl _)
theorem wrap8 {n : Nat} (h : n < 256) : IntKind.u8.wrap (n : Int) = (n : Int) := by
  show (n : Int) % 256 = n
  omega
end
set_option maxHeartbeats 3200000 in
theorem rputid_no {w : World} {B : Nat} {v : Value} {l : List UInt8} (h : SlB w B v l) (hl : l.length ≤ 4294967296) (hB : B ≤ w.heap.size) (s q : Int) (hf : idb s q = false) : Calls Tryd.prog 68 #[v, .agg #[.int .i64 s, .int .i64 q]] w (MadeB w l) := by
  have HI := Lib.hid (fun z => rtid_any s q z)
  rw [hf] at HI
  clear hf
  obtain ⟨i0, hi, hz0, hz1, hz2⟩ := info_parts info_u8
  obtain ⟨vA, vc, rfl, hvc, hvm, hA, hvr⟩ := h
  obtain ⟨m, hm⟩ : ∃ m, m = l.length := ⟨_, rfl⟩
  have HM := Lib.hid hm
  have hml : m ≤ 4294967296 := by rw [hm]; exact hl
  rw [← hm] at hvc ⊢
  clear hm
  unfold maxLen at hvm
  obtain ⟨w0, hw0⟩ : ∃ w0, w0 = w.alloc (.cells [.int .i64 s, .int .i64 q].toArray 30) := ⟨_, rfl⟩
  have ee : Below w.heap.size w w0 := by rw [hw0]; exact (Below.refl _ _).alloc (Nat.le_refl _) _
  have Zt : w0.heap[w.heap.size]? = some (.cells [.int .i64 s, .int .i64 q].toArray 30) := by rw [hw0]; exact hpN _ _ rfl
  go_enter Tryd.func68, Tryd.ntmps68
  go_upto_region 1 with fail
  rw [← hw0]
  clear hw0
  go_upto_region 2 with fail
  refine wp_region_lit ?_
  iterate 6 go_step
  refine wpList_append_rd _ rfl (.tmp 6) (.tmp 7) 69 rfl w.heap.size 5 i0 (.int .u8 0) 1 Tryd.underlying69 hi hz0 hz1 hz2 rfl _ _ _ rfl (World.ownsRow_nil _ _ _ _) B vA m vc (bc l) rfl (by rw [bc_len, HM.out]) (fun h => (hA h).2) (hvr.belowM ee hB) (bc_one l) (by unfold maxLen; omega) (by omega) ee.size ?_
  intro v1 z1 ho_ hg_
  have t := belowNone hg_
  have Zt := hpB Zt t
  have ee := ee.trans (t.mono ee.size)
  have ho : z1.ownsRow w.heap.size 5 1 v1 l.length (bc l) := by rw [← HM.out]; simpa using ho_
  clear ho_ hg_ t
  iterate 3 go_step
  have c0 := rowCell Zt 0 rfl
  have c1 := rowCell Zt 1 rfl
  go_wp2_with fail
  refine (HI.out z1).mono ?_
  rintro e z2 ⟨rfl, t⟩
  have ho := ownBelow ho t
  have Zt := hpB Zt t
  have ee := ee.trans (t.mono ee.size)
  clear t
  go_wp2_with fail
  go_ret
  exact ⟨_, rfl, ho, ee⟩
set_option maxHeartbeats 3200000 in
theorem rputid_yes {w : World} {B : Nat} {v : Value} {l : List UInt8} (h : SlB w B v l) (hl : l.length ≤ 4294967296) (hB : B ≤ w.heap.size) (s q : Nat) (h1 : 1 ≤ s) (h2 : s ≤ 8) (h3 : 1 ≤ q) (h4 : q ≤ 1048576) : Calls Tryd.prog 68 #[v, .agg #[.int .i64 (s : Int), .int .i64 (q : Int)]] w (MadeB w (C.put (C.put l s 1) q 4)) := by
  have HI := Lib.hid (fun z => rtid_any s q z)
  rw [show idb (s : Int) (q : Int) = true from decide_eq_true (by omega)] at HI
  have HL1 := put_len2 l s 1
  have k1 : IntKind.u8.wrap (s : Int) = (s : Int) := wrap8 (by omega)
  have k2 : IntKind.u64.wrap (q : Int) = (q : Int) := wrapOf (by omega)
  obtain ⟨i0, hi, hz0, hz1, hz2⟩ := info_parts info_u8
  obtain ⟨vA, vc, rfl, hvc, hvm, hA, hvr⟩ := h
  obtain ⟨m, hm⟩ : ∃ m, m = l.length := ⟨_, rfl⟩
  have HM := Lib.hid hm
  have hml : m ≤ 4294967296 := by rw [hm]; exact hl
  rw [← hm] at hvc ⊢
  clear hm
  unfold maxLen at hvm
  obtain ⟨w0, hw0⟩ : ∃ w0, w0 = w.alloc (.cells [.int .i64 (s : Int), .int .i64 (q : Int)].toArray 30) := ⟨_, rfl⟩
  have ee : Below w.heap.size w w0 := by rw [hw0]; exact (Below.refl _ _).alloc (Nat.le_refl _) _
  have Zt : w0.heap[w.heap.size]? = some (.cells [.int .i64 (s : Int), .int .i64 (q : Int)].toArray 30) := by rw [hw0]; exact hpN _ _ rfl
  go_enter Tryd.func68, Tryd.ntmps68
  go_upto_region 1 with fail
  rw [← hw0]
  clear hw0
  go_upto_region 2 with fail
  refine wp_region_lit ?_
  iterate 6 go_step
  refine wpList_append_rd _ rfl (.tmp 6) (.tmp 7) 69 rfl w.heap.size 5 i0 (.int .u8 0) 1 Tryd.underlying69 hi hz0 hz1 hz2 rfl _ _ _ rfl (World.ownsRow_nil _ _ _ _) B vA m vc (bc l) rfl (by rw [bc_len, HM.out]) (fun h => (hA h).2) (hvr.belowM ee hB) (bc_one l) (by unfold maxLen; omega) (by omega) ee.size ?_
  intro v1 z1 ho_ hg_
  have t := belowNone hg_
  have Zt := hpB Zt t
  have ee := ee.trans (t.mono ee.size)
  have ho : z1.ownsRow w.heap.size 5 1 v1 l.length (bc l) := by rw [← HM.out]; simpa using ho_
  clear ho_ hg_ t
  iterate 3 go_step
  have c0 := rowCell Zt 0 rfl
  have c1 := rowCell Zt 1 rfl
  go_wp2_with fail
  refine (HI.out z1).mono ?_
  rintro e z2 ⟨rfl, t⟩
  have ho := ownBelow ho t
  have Zt := hpB Zt t
  have ee := ee.trans (t.mono ee.size)
  clear t
  clear c0 c1
  have c0 := rowCell Zt 0 rfl
  go_upto_region 5 with fail
  refine wp_region_lit ?_
  iterate 15 go_step
  have lZt := (Array.getElem?_eq_some_iff.1 Zt).1
  have Zt := hpA Zt (.cells #[.int .u8 (s : Int)] 5)
  have sz_ := ee.size
  have ho := ho.alloc (.cells #[.int .u8 (s : Int)] 5)
  have ee := ee.alloc ee.size (.cells #[.int .u8 (s : Int)] 5)
  have ZN := hpN z2 (.cells #[.int .u8 (s : Int)] 5) rfl
  generalize z2.alloc (.cells #[.int .u8 (s : Int)] 5) = z3 at ho ZN Zt ee ⊢
  refine wpList_append_own _ rfl (.tmp 13) (.tmp 17) 69 rfl w.heap.size 5 i0 (.int .u8 0) 1 1 Tryd.underlying69 hi hz0 hz1 hz2 rfl (by decide) _ _ _ rfl ho ⟨z2.heap.size, 0, none⟩ 1 1 [.int .u8 (s : Int)] rfl rfl (rowAdd (cs := [.int .u8 (s : Int)]) ZN) (by simp [Value.oneCell']) (by unfold maxLen; omega) (by omega) ee.size ?_
  intro v2 z4 ho_ hg_ _
  clear ZN sz_
  have Zt := heapOwn Zt ho (by decide) hg_
  have ee := ee.grown hg_ ee.size (fun g hg => (ho.lt g hg).1)
  clear ho hg_
  have ho : z4.ownsRow w.heap.size 5 1 v2 (C.put l s 1).length (bc (C.put l s 1)) := byteOwn ho_ (by omega)
  clear ho_
  clear c0
  have c1 := rowCell Zt 1 rfl
  go_upto_region 6 with fail
  go_wp2_with fail
  have sz_ := ee.size
  refine (rput_o ho (by omega) q (by omega) 4 (by omega) (by omega)).mono ?_
  rintro e z5 ⟨v3, rfl, on_, t⟩
  clear ho
  have ho := ownMore on_ sz_
  clear on_ sz_
  have Zt := hpB Zt t
  have ee := ee.trans (t.mono ee.size)
  clear t
  go_wp2_with fail
  go_ret
  exact ⟨_, rfl, ho, ee⟩
theorem rputid_s {w : World} {B : Nat} {v : Value} {l : List UInt8} (h : SlB w B v l) (hl : l.length ≤ 4294967296) (hB : B ≤ w.heap.size) (s q : Int) : Calls Tryd.prog 68 #[v, .agg #[.int .i64 s, .int .i64 q]] w (MadeB w (idput l s q)) := by
  cases hf : idb s q with
  | false => rw [show idput l s q = l by unfold idput; rw [hf]; rfl]; exact rputid_no h hl hB s q hf
  | true =>
    obtain ⟨a, b, rfl, rfl, h1, h2, h3, h4⟩ := idb_nat hf
    rw [show idput l (a : Int) (b : Int) = C.put (C.put l a 1) b 4 by unfold idput; rw [hf]; rfl]
    exact rputid_yes h hl hB a b h1 h2 h3 h4
end Go.Proofs.YtkfnepmiigkdfaaDoor

namespace Go.Proofs.YtkfnepmiigkdfaaDoor
set_option maxRecDepth 20001
open Go.RowKit T
set_option linter.unusedSimpArgs false
set_option linter.unusedVariables false

set_option maxHeartbeats 3200000 in
theorem rtput_no {w : World} {B : Nat} {v : Value} {l : List UInt8} (h : SlB w B v l) (hl : l.length ≤ 4294967296) (hB : B ≤ w.heap.size) (s q : Int) (rs : List Rd1) (ws : List Wr1) (A1 : Option Addr) (c1 : Nat) (A2 : Option Addr) (c2 : Nat) (ok : TxOk w w.heap.size rs ws A1 c1 A2 c2) (hf : formed s q rs ws = false) : Calls Tryd.prog 67 #[v, .agg #[.int .i64 s, .int .i64 q, .slice A1 rs.length c1, .slice A2 ws.length c2]] w (MadeB w l) := by
  have HR := Lib.hid ok.r
  have HW := Lib.hid ok.w
  have HRO := Lib.hid ok.ro
  have HWO := Lib.hid ok.wo
  have q1 := ok.rc
  have q2 := ok.wc
  have q3 := ok.rm
  have q4 := ok.wm
  unfold maxLen at q3 q4
  have HF := Lib.hid (fun z (hz : Below w.heap.size w z) => rtformed_any s q rs ws A1 c1 A2 c2 z w.heap.size hz.size (ok.below hz (Nat.le_refl _)))
  rw [hf] at HF
  clear ok
  obtain ⟨n1, hn1⟩ : ∃ n, n = rs.length := ⟨_, rfl⟩
  obtain ⟨n2, hn2⟩ : ∃ n, n = ws.length := ⟨_, rfl⟩
  have HN1 := Lib.hid hn1
  have HN2 := Lib.hid hn2
  rw [← hn1, ← hn2] at HF ⊢
  rw [← hn1] at q1
  rw [← hn2] at q2
  clear hn1 hn2
  clear hf
  obtain ⟨i0, hi, hz0, hz1, hz2⟩ := info_parts info_u8
  obtain ⟨vA, vc, rfl, hvc, hvm, hA, hvr⟩ := h
  obtain ⟨m, hm⟩ : ∃ m, m = l.length := ⟨_, rfl⟩
  have HM := Lib.hid hm
  have hml : m ≤ 4294967296 := by rw [hm]; exact hl
  rw [← hm] at hvc ⊢
  clear hm
  unfold maxLen at hvm
  obtain ⟨w0, hw0⟩ : ∃ w0, w0 = w.alloc (.cells [.int .i64 s, .int .i64 q, .slice A1 n1 c1, .slice A2 n2 c2].toArray 34) := ⟨_, rfl⟩
  have ee : Below w.heap.size w w0 := by rw [hw0]; exact (Below.refl _ _).alloc (Nat.le_refl _) _
  have Zt : w0.heap[w.heap.size]? = some (.cells [.int .i64 s, .int .i64 q, .slice A1 n1 c1, .slice A2 n2 c2].toArray 34) := by rw [hw0]; exact hpN _ _ rfl
  go_enter Tryd.func67, Tryd.ntmps67
  go_upto_region 1 with fail
  rw [← hw0]
  clear hw0
  go_upto_region 2 with fail
  refine wp_region_lit ?_
  iterate 6 go_step
  refine wpList_append_rd _ rfl (.tmp 8) (.tmp 9) 69 rfl w.heap.size 5 i0 (.int .u8 0) 1 Tryd.underlying69 hi hz0 hz1 hz2 rfl _ _ _ rfl (World.ownsRow_nil _ _ _ _) B vA m vc (bc l) rfl (by rw [bc_len, HM.out]) (fun h => (hA h).2) (hvr.belowM ee hB) (bc_one l) (by unfold maxLen; omega) (by omega) ee.size ?_
  intro v1 z1 ho_ hg_
  have t := belowNone hg_
  have Zt := hpB Zt t
  have ee := ee.trans (t.mono ee.size)
  have ho : z1.ownsRow w.heap.size 5 1 v1 l.length (bc l) := by rw [← HM.out]; simpa using ho_
  clear ho_ hg_ t
  iterate 3 go_step
  go_upto_region 3 with fail
  refine wp_region_lit ?_
  iterate 27 (first | with_reducible refine isLoad (ty := 34) rfl ?_ | go_step)
  refine wpList_load_mid rfl 34 _ rfl (w.heap.size) 0 rfl ([.int .i64 s, .int .i64 q, .slice A1 n1 c1, .slice A2 n2 c2]) _ (rowAt Zt) Tryd.underlying34 rfl sizeTx ?_
  go_wp2_with fail
  refine (HF.out z1 ee).mono ?_
  rintro e z2 ⟨rfl, t⟩
  have ho := ownBelow ho t
  have Zt := hpB Zt t
  have ee := ee.trans (t.mono ee.size)
  clear t
  go_wp2_with fail
  go_ret
  exact ⟨_, rfl, ho, ee⟩
set_option maxHeartbeats 6400000 in
theorem rtput_yes {w : World} {B : Nat} {v : Value} {l : List UInt8} (h : SlB w B v l) (hl : l.length ≤ 4294967296) (hB : B ≤ w.heap.size) (s q : Int) (rs : List Rd1) (ws : List Wr1) (A1 : Option Addr) (c1 : Nat) (A2 : Option Addr) (c2 : Nat) (ok : TxOk w w.heap.size rs ws A1 c1 A2 c2) (hf : formed s q rs ws = true) : Calls Tryd.prog 67 #[v, .agg #[.int .i64 s, .int .i64 q, .slice A1 rs.length c1, .slice A2 ws.length c2]] w (MadeB w (ws.foldl wput (C.put (rs.foldl rput (C.put (idput l s q) rs.length 1)) ws.length 1))) := by
  obtain ⟨hi9, hr6, hw6⟩ := formed_few hf
  have HR := Lib.hid ok.r
  have HW := Lib.hid ok.w
  have HRO := Lib.hid ok.ro
  have HWO := Lib.hid ok.wo
  have q1 := ok.rc
  have q2 := ok.wc
  have q3 := ok.rm
  have q4 := ok.wm
  unfold maxLen at q3 q4
  have HF := Lib.hid (fun z (hz : Below w.heap.size w z) => rtformed_any s q rs ws A1 c1 A2 c2 z w.heap.size hz.size (ok.below hz (Nat.le_refl _)))
  rw [hf] at HF
  clear ok
  obtain ⟨n1, hn1⟩ : ∃ n, n = rs.length := ⟨_, rfl⟩
  obtain ⟨n2, hn2⟩ : ∃ n, n = ws.length := ⟨_, rfl⟩
  have HN1 := Lib.hid hn1
  have HN2 := Lib.hid hn2
  rw [← hn1, ← hn2] at HF ⊢
  rw [← hn1] at q1
  rw [← hn2] at q2
  clear hn1 hn2
  rw [← HN1.out] at hr6
  rw [← HN2.out] at hw6
  have HL1 := idput_len l s q
  have HL2 := put_len2 (idput l s q) n1 1
  have k1 : IntKind.u8.wrap (n1 : Int) = (n1 : Int) := wrap8 (by omega)
  have k2 : IntKind.u8.wrap (n2 : Int) = (n2 : Int) := wrap8 (by omega)
  clear hi9 hf
  obtain ⟨i0, hi, hz0, hz1, hz2⟩ := info_parts info_u8
  obtain ⟨vA, vc, rfl, hvc, hvm, hA, hvr⟩ := h
  obtain ⟨m, hm⟩ : ∃ m, m = l.length := ⟨_, rfl⟩
  have HM := Lib.hid hm
  have hml : m ≤ 4294967296 := by rw [hm]; exact hl
  rw [← hm] at hvc ⊢
  clear hm
  unfold maxLen at hvm
  obtain ⟨w0, hw0⟩ : ∃ w0, w0 = w.alloc (.cells [.int .i64 s, .int .i64 q, .slice A1 n1 c1, .slice A2 n2 c2].toArray 34) := ⟨_, rfl⟩
  have ee : Below w.heap.size w w0 := by rw [hw0]; exact (Below.refl _ _).alloc (Nat.le_refl _) _
  have Zt : w0.heap[w.heap.size]? = some (.cells [.int .i64 s, .int .i64 q, .slice A1 n1 c1, .slice A2 n2 c2].toArray 34) := by rw [hw0]; exact hpN _ _ rfl
  go_enter Tryd.func67, Tryd.ntmps67
  go_upto_region 1 with fail
  rw [← hw0]
  clear hw0
  go_upto_region 2 with fail
  refine wp_region_lit ?_
  iterate 6 go_step
  refine wpList_append_rd _ rfl (.tmp 8) (.tmp 9) 69 rfl w.heap.size 5 i0 (.int .u8 0) 1 Tryd.underlying69 hi hz0 hz1 hz2 rfl _ _ _ rfl (World.ownsRow_nil _ _ _ _) B vA m vc (bc l) rfl (by rw [bc_len, HM.out]) (fun h => (hA h).2) (hvr.belowM ee hB) (bc_one l) (by unfold maxLen; omega) (by omega) ee.size ?_
  intro v1 z1 ho_ hg_
  have t := belowNone hg_
  have Zt := hpB Zt t
  have ee := ee.trans (t.mono ee.size)
  have ho : z1.ownsRow w.heap.size 5 1 v1 l.length (bc l) := by rw [← HM.out]; simpa using ho_
  clear ho_ hg_ t
  iterate 3 go_step
  go_upto_region 3 with fail
  refine wp_region_lit ?_
  iterate 27 (first | with_reducible refine isLoad (ty := 34) rfl ?_ | go_step)
  refine wpList_load_mid rfl 34 _ rfl (w.heap.size) 0 rfl ([.int .i64 s, .int .i64 q, .slice A1 n1 c1, .slice A2 n2 c2]) _ (rowAt Zt) Tryd.underlying34 rfl sizeTx ?_
  go_wp2_with fail
  refine (HF.out z1 ee).mono ?_
  rintro e z2 ⟨rfl, t⟩
  have ho := ownBelow ho t
  have Zt := hpB Zt t
  have ee := ee.trans (t.mono ee.size)
  clear t
  clear HF
  have x0 := rowCell Zt 0 rfl
  have x1 := rowCell Zt 1 rfl
  go_wp2_with fail
  have sz_ := ee.size
  refine (rputid_s (SlB.ofOwn ho) (by omega) (Nat.le_refl _) s q).mono ?_
  rintro e z3 ⟨v2, rfl, on_, t⟩
  clear ho
  have ho := ownMore on_ sz_
  clear on_ sz_
  have Zt := hpB Zt t
  have ee := ee.trans (t.mono ee.size)
  clear t
  clear x0 x1
  have x2 := rowCell Zt 2 (v := .slice A1 n1 c1) rfl
  go_upto_region 6 with fail
  refine wp_region_lit ?_
  iterate 18 go_step
  have lZt := (Array.getElem?_eq_some_iff.1 Zt).1
  have Zt := hpA Zt (.cells #[.int .u8 (n1 : Int)] 5)
  have sz_ := ee.size
  have ho := ho.alloc (.cells #[.int .u8 (n1 : Int)] 5)
  have ee := ee.alloc ee.size (.cells #[.int .u8 (n1 : Int)] 5)
  have ZN := hpN z3 (.cells #[.int .u8 (n1 : Int)] 5) rfl
  generalize z3.alloc (.cells #[.int .u8 (n1 : Int)] 5) = z4 at ho ZN Zt ee ⊢
  refine wpList_append_own _ rfl (.tmp 19) (.tmp 24) 69 rfl w.heap.size 5 i0 (.int .u8 0) 1 1 Tryd.underlying69 hi hz0 hz1 hz2 rfl (by decide) _ _ _ rfl ho ⟨z3.heap.size, 0, none⟩ 1 1 [.int .u8 (n1 : Int)] rfl rfl (rowAdd (cs := [.int .u8 (n1 : Int)]) ZN) (by simp [Value.oneCell']) (by unfold maxLen; omega) (by omega) ee.size ?_
  intro v3 z5 ho_ hg_ _
  clear ZN sz_
  have Zt := heapOwn Zt ho (by decide) hg_
  have ee := ee.grown hg_ ee.size (fun g hg => (ho.lt g hg).1)
  clear ho hg_
  have ho : z5.ownsRow w.heap.size 5 1 v3 (C.put (idput l s q) n1 1).length (bc (C.put (idput l s q) n1 1)) := byteOwn ho_ (by omega)
  clear ho_
  clear x2
  go_wp2_with fail
  go_loopw [5, 6] (fun u i wr => ∃ (k : Nat) (vv : Value), k ≤ n1 ∧ i = .int .i64 (k : Int) ∧ u = vv ∧ wr.ownsRow w.heap.size 5 1 vv ((rs.take k).foldl rput (C.put (idput l s q) n1 1)).length (bc ((rs.take k).foldl rput (C.put (idput l s q) n1 1))) ∧ Hid (wr.heap[w.heap.size]? = some (.cells [.int .i64 s, .int .i64 q, .slice A1 n1 c1, .slice A2 n2 c2].toArray 34)) ∧ Hid (Below w.heap.size w wr)) (fun _ i _ => n1 - (intOf i).toNat)
  case atStart => exact ⟨0, v3, Nat.zero_le _, rfl, rfl, ho, Zt, ee⟩
  case round =>
    clear Zt ee ho
    obtain ⟨k, vv, hk, rfl, hu, ho, Zt, ee⟩ := hrel
    have hu := hu.symm
    subst hu
    have Zt := Zt.out
    have ee := ee.out
    by_cases hlt : k < n1
    · have hkl : k < rs.length := by rw [← HN1.out]; exact hlt
      obtain ⟨bo, off, rfl, hbo, hr⟩ := rowsGet HR.out hkl
      have HX : Hid (okR (rs[k]'hkl)) := HRO.out _ (List.getElem_mem hkl)
      have HK : Hid (((rs.take (k + 1)).foldl rput (C.put (idput l s q) n1 1)) = rput (((rs.take k).foldl rput (C.put (idput l s q) n1 1))) (rs[k]'hkl)) := by
        show _ = _
        rw [List.take_succ_eq_append_getElem hkl, List.foldl_append]; rfl
      have hlen := rfold_len (rs.take k) (C.put (idput l s q) n1 1)
      have hlt6 : (rs.take k).length ≤ 6 := by rw [List.length_take]; omega
      generalize (rs.take k).foldl rput (C.put (idput l s q) n1 1) = lk at ho HK hlen
      generalize rs[k] = x at hr HX HK
      have hb0 : (0 : Int) ≤ (k : Int) := by omega
      have hb1 : (k : Int) < (n1 : Int) := by omega
      obtain ⟨xk, xv⟩ := x
      have hx1 := HX.out.1
      have hx2 := HX.out.2
      simp only at hx1 hx2
      have hpl := puttext_len lk xk
      have hsz : (⟨xk.toArray⟩ : ByteArray).size ≤ 9223372036854775807 := by simpa [ByteArray.size] using hx1
      have x2 := rowCell Zt 2 (v := .slice (some ⟨bo, off, none⟩) n1 c1) rfl
      have y0 := rangeCell (rangeB hr ee hbo) 0 (v := .string ⟨xk.toArray⟩) rfl
      rw [Nat.add_zero] at y0
      go_wp2_with fail
      have sz_ := ee.size
      refine (rputtext_o ho (by omega) _ hsz).mono ?_
      rintro e z26 ⟨v4, rfl, on_, t⟩
      clear ho
      have ho := ownMore on_ sz_
      clear on_ sz_
      have Zt := hpB Zt t
      have ee := ee.trans (t.mono ee.size)
      clear t
      clear x2 y0
      have x2 := rowCell Zt 2 (v := .slice (some ⟨bo, off, none⟩) n1 c1) rfl
      have y1 := rangeCell (rangeB hr ee hbo) 1 (v := .int .u64 (xv : Int)) rfl
      go_wp2_with fail
      have sz_ := ee.size
      refine (rput_o ho (by show (C.putText lk xk).length ≤ _; omega) xv hx2 8 (by omega) (by omega)).mono ?_
      rintro e z27 ⟨v5, rfl, on_, t⟩
      clear ho
      have ho := ownMore on_ sz_
      clear on_ sz_
      have Zt := hpB Zt t
      have ee := ee.trans (t.mono ee.size)
      clear t
      clear y1
      clear x2
      go_wp2_with fail
      go_roundw
      case rel => exact ⟨k + 1, _, by omega, by go_num, rfl, by rw [HK.out]; exact ho, Zt, ee⟩
      case measure => simp [intOf]; omega
    · obtain rfl : n1 = k := by omega
      have htk : rs.take n1 = rs := by rw [HN1.out]; exact List.take_length
      rw [htk] at ho
      clear htk hlt k1
      have hlr := rfold_len rs (C.put (idput l s q) n1 1)
      rw [← HN1.out] at hlr
      obtain ⟨lr, hlr0⟩ : ∃ lr, lr = rs.foldl rput (C.put (idput l s q) n1 1) := ⟨_, rfl⟩
      have HLR := Lib.hid hlr0
      rw [← hlr0] at ho hlr
      clear hlr0
      have HL3 := put_len2 lr n2 1
      have x2 := rowCell Zt 2 rfl
      go_upto_region 12 with fail
      clear x2
      have x3 := rowCell Zt 3 (v := .slice A2 n2 c2) rfl
      refine wp_region_lit ?_
      iterate 18 go_step
      have lZt := (Array.getElem?_eq_some_iff.1 Zt).1
      have Zt := hpA Zt (.cells #[.int .u8 (n2 : Int)] 5)
      have sz_ := ee.size
      have ho := ho.alloc (.cells #[.int .u8 (n2 : Int)] 5)
      have ee := ee.alloc ee.size (.cells #[.int .u8 (n2 : Int)] 5)
      have ZN := hpN wr (.cells #[.int .u8 (n2 : Int)] 5) rfl
      generalize wr.alloc (.cells #[.int .u8 (n2 : Int)] 5) = z26 at ho ZN Zt ee ⊢
      refine wpList_append_own _ rfl (.tmp 49) (.tmp 54) 69 rfl w.heap.size 5 i0 (.int .u8 0) 1 1 Tryd.underlying69 hi hz0 hz1 hz2 rfl (by decide) _ _ _ rfl ho ⟨wr.heap.size, 0, none⟩ 1 1 [.int .u8 (n2 : Int)] rfl rfl (rowAdd (cs := [.int .u8 (n2 : Int)]) ZN) (by simp [Value.oneCell']) (by unfold maxLen; omega) (by omega) ee.size ?_
      intro v6 z27 ho_ hg_ _
      clear ZN sz_
      have Zt := heapOwn Zt ho (by decide) hg_
      have ee := ee.grown hg_ ee.size (fun g hg => (ho.lt g hg).1)
      clear ho hg_
      have ho : z27.ownsRow w.heap.size 5 1 v6 (C.put lr n2 1).length (bc (C.put lr n2 1)) := byteOwn ho_ (by omega)
      clear ho_
      clear x3 k2
      go_wp2_with fail
      go_loopw [5, 7] (fun u i wr => ∃ (k : Nat) (vv : Value), k ≤ n2 ∧ i = .int .i64 (k : Int) ∧ u = vv ∧ wr.ownsRow w.heap.size 5 1 vv ((ws.take k).foldl wput (C.put lr n2 1)).length (bc ((ws.take k).foldl wput (C.put lr n2 1))) ∧ Hid (wr.heap[w.heap.size]? = some (.cells [.int .i64 s, .int .i64 q, .slice A1 n1 c1, .slice A2 n2 c2].toArray 34)) ∧ Hid (Below w.heap.size w wr)) (fun _ i _ => n2 - (intOf i).toNat)
      case atStart => exact ⟨0, v6, Nat.zero_le _, rfl, rfl, ho, Zt, ee⟩
      case round =>
        clear Zt ee ho
        obtain ⟨k, vv, hk, rfl, hu, ho, Zt, ee⟩ := hrel
        have hu := hu.symm
        subst hu
        have Zt := Zt.out
        have ee := ee.out
        by_cases hlt : k < n2
        · have hkl : k < ws.length := by rw [← HN2.out]; exact hlt
          obtain ⟨bo, off, rfl, hbo, hr⟩ := rowsGet HW.out hkl
          have HX : Hid (okW (ws[k]'hkl)) := HWO.out _ (List.getElem_mem hkl)
          have HK : Hid (((ws.take (k + 1)).foldl wput (C.put lr n2 1)) = wput (((ws.take k).foldl wput (C.put lr n2 1))) (ws[k]'hkl)) := by
            show _ = _
            rw [List.take_succ_eq_append_getElem hkl, List.foldl_append]; rfl
          have hlen := wfold_len (ws.take k) (C.put lr n2 1)
          have hlt6 : (ws.take k).length ≤ 6 := by rw [List.length_take]; omega
          generalize (ws.take k).foldl wput (C.put lr n2 1) = lk at ho HK hlen
          generalize ws[k] = x at hr HX HK
          have hb0 : (0 : Int) ≤ (k : Int) := by omega
          have hb1 : (k : Int) < (n2 : Int) := by omega
          obtain ⟨xk, xi, xb, xt⟩ := x
          have hx1 := HX.out.1
          have hx2 := HX.out.2.1
          have hx3 := HX.out.2.2
          simp only at hx1 hx2 hx3
          have hpl := puttext_len lk xk
          have hsz : (⟨xk.toArray⟩ : ByteArray).size ≤ 9223372036854775807 := by simpa [ByteArray.size] using hx1
          have hst : (⟨xt.toArray⟩ : ByteArray).size ≤ 9223372036854775807 := by simpa [ByteArray.size] using hx3
          have x3 := rowCell Zt 3 (v := .slice (some ⟨bo, off, none⟩) n2 c2) rfl
          have y0 := rangeCell (rangeB hr ee hbo) 0 (v := .string ⟨xk.toArray⟩) rfl
          rw [Nat.add_zero] at y0
          go_wp2_with fail
          have sz_ := ee.size
          refine (rputtext_o ho (by omega) _ hsz).mono ?_
          rintro e z48 ⟨v7, rfl, on_, t⟩
          clear ho
          have ho := ownMore on_ sz_
          clear on_ sz_
          have Zt := hpB Zt t
          have ee := ee.trans (t.mono ee.size)
          clear t
          clear x3 y0
          have x3 := rowCell Zt 3 (v := .slice (some ⟨bo, off, none⟩) n2 c2) rfl
          have y1 := rangeCell (rangeB hr ee hbo) 1 (v := .int .i64 xi) rfl
          have y2 := rangeCell (rangeB hr ee hbo) 2 (v := .int .u64 (xb : Int)) rfl
          have y3 := rangeCell (rangeB hr ee hbo) 3 (v := .string ⟨xt.toArray⟩) rfl
          go_wp2_with fail
          have sz_ := ee.size
          refine (rvput_o ho (by show (C.putText lk xk).length ≤ _; omega) xi xb _ hx2 hst).mono ?_
          rintro e z49 ⟨v8, rfl, on_, t⟩
          clear ho
          have ho := ownMore on_ sz_
          clear on_ sz_
          have Zt := hpB Zt t
          have ee := ee.trans (t.mono ee.size)
          clear t
          clear y1 y2 y3
          clear x3
          go_wp2_with fail
          go_roundw
          case rel => exact ⟨k + 1, _, by omega, by go_num, rfl, by rw [HK.out]; exact ho, Zt, ee⟩
          case measure => simp [intOf]; omega
        · obtain rfl : n2 = k := by omega
          have htk : ws.take n2 = ws := by rw [HN2.out]; exact List.take_length
          rw [htk, HLR.out] at ho
          clear htk hlt
          have x3 := rowCell Zt 3 rfl
          go_wp2_with fail
          go_ret
          exact ⟨_, rfl, ho, ee⟩
theorem rtput_s {w : World} {B : Nat} {v : Value} {l : List UInt8} (h : SlB w B v l) (hl : l.length ≤ 4294967296) (hB : B ≤ w.heap.size) (s q : Int) (rs : List Rd1) (ws : List Wr1) (A1 : Option Addr) (c1 : Nat) (A2 : Option Addr) (c2 : Nat) (ok : TxOk w w.heap.size rs ws A1 c1 A2 c2) : Calls Tryd.prog 67 #[v, .agg #[.int .i64 s, .int .i64 q, .slice A1 rs.length c1, .slice A2 ws.length c2]] w (MadeB w (tput l s q rs ws)) := by
  unfold tput
  cases hf : formed s q rs ws with
  | false => exact rtput_no h hl hB s q rs ws A1 c1 A2 c2 ok hf
  | true => exact rtput_yes h hl hB s q rs ws A1 c1 A2 c2 ok hf
end Go.Proofs.YtkfnepmiigkdfaaDoor

namespace Go.Proofs.YtkfnepmiigkdfaaDoor
set_option maxRecDepth 20001
open Go.RowKit T
set_option linter.unusedSimpArgs false
set_option linter.unusedVariables false

set_option maxHeartbeats 3200000 in
theorem rcput_no {w : World} {B : Nat} {v : Value} {l : List UInt8} (h : SlB w B v l) (hl : l.length ≤ 2147483648) (hB : B ≤ w.heap.size) (x : Cm) (ok : CmOk w w.heap.size x) (hf : x.formed = false) : Calls Tryd.prog 40 #[v, .agg x.cells.toArray] w (MadeB w l) := by
  have HF := Lib.hid (fun z (hz : Below w.heap.size w z) => rcformed_any x.k x.s x.q x.rs x.ws x.A1 x.c1 x.A2 x.c2 x.i x.j x.g x.st x.y z w.heap.size hz.size (ok.below hz (Nat.le_refl _)))
  have HFE : Hid (x.formed = T.cformed x.k x.s x.q x.rs x.ws x.i x.j x.g x.st x.y) := rfl
  rw [← HFE.out, hf] at HF
  have HO := Lib.hid ok
  clear ok hf HFE
  obtain ⟨i0, hi, hz0, hz1, hz2⟩ := info_parts info_u8
  obtain ⟨vA, vc, rfl, hvc, hvm, hA, hvr⟩ := h
  obtain ⟨m, hm⟩ : ∃ m, m = l.length := ⟨_, rfl⟩
  have HM := Lib.hid hm
  have hml : m ≤ 2147483648 := by rw [hm]; exact hl
  rw [← hm] at hvc ⊢
  clear hm
  unfold maxLen at hvm
  obtain ⟨w0, hw0⟩ : ∃ w0, w0 = w.alloc (.cells x.cells.toArray 41) := ⟨_, rfl⟩
  have ee : Below w.heap.size w w0 := by rw [hw0]; exact (Below.refl _ _).alloc (Nat.le_refl _) _
  have Zt : w0.heap[w.heap.size]? = some (.cells x.cells.toArray 41) := by rw [hw0]; exact hpN _ _ rfl
  go_enter Tryd.func40, Tryd.ntmps40
  go_upto_region 1 with fail
  rw [← hw0]
  clear hw0
  go_upto_region 2 with fail
  refine wp_region_lit ?_
  iterate 6 go_step
  refine wpList_append_rd _ rfl (.tmp 6) (.tmp 7) 69 rfl w.heap.size 5 i0 (.int .u8 0) 1 Tryd.underlying69 hi hz0 hz1 hz2 rfl _ _ _ rfl (World.ownsRow_nil _ _ _ _) B vA m vc (bc l) rfl (by rw [bc_len, HM.out]) (fun h => (hA h).2) (hvr.belowM ee hB) (bc_one l) (by unfold maxLen; omega) (by omega) ee.size ?_
  intro v1 z1 ho_ hg_
  have t := belowNone hg_
  have Zt := hpB Zt t
  have ee := ee.trans (t.mono ee.size)
  have ho : z1.ownsRow w.heap.size 5 1 v1 l.length (bc l) := by rw [← HM.out]; simpa using ho_
  clear ho_ hg_ t
  iterate 3 go_step
  go_upto_region 3 with fail
  refine wp_region_lit ?_
  iterate 27 (first | with_reducible refine isLoad (ty := 41) rfl ?_ | go_step)
  refine wpList_load_mid rfl 41 _ rfl (w.heap.size) 0 rfl (x.cells) _ (rowAt Zt) Tryd.underlying41 rfl sizeRCm ?_
  go_wp2_with fail
  refine (HF.out z1 ee).mono ?_
  rintro e z2 ⟨rfl, t⟩
  have ho := ownBelow ho t
  have Zt := hpB Zt t
  have ee := ee.trans (t.mono ee.size)
  clear t
  clear HF
  go_wp2_with fail
  go_ret
  exact ⟨_, rfl, ho, ee⟩
set_option maxHeartbeats 6400000 in
theorem rcput_0 {w : World} {B : Nat} {v : Value} {l : List UInt8} (h : SlB w B v l) (hl : l.length ≤ 2147483648) (hB : B ≤ w.heap.size) (x : Cm) (ok : CmOk w w.heap.size x) (hf : x.formed = true) (hk : x.k = 0) : Calls Tryd.prog 40 #[v, .agg x.cells.toArray] w (MadeB w (C.put l 0 1)) := by
  have HX0 : Hid (x.cells[0]? = some (.int .i64 0)) := by show _ = _; rw [← hk]; rfl
  have HF := Lib.hid (fun z (hz : Below w.heap.size w z) => rcformed_any x.k x.s x.q x.rs x.ws x.A1 x.c1 x.A2 x.c2 x.i x.j x.g x.st x.y z w.heap.size hz.size (ok.below hz (Nat.le_refl _)))
  have HFE : Hid (x.formed = T.cformed x.k x.s x.q x.rs x.ws x.i x.j x.g x.st x.y) := rfl
  rw [← HFE.out, hf] at HF
  have HO := Lib.hid ok
  clear ok hf HFE
  have HL1 := put_len2 l 0 1
  clear hk
  obtain ⟨i0, hi, hz0, hz1, hz2⟩ := info_parts info_u8
  obtain ⟨vA, vc, rfl, hvc, hvm, hA, hvr⟩ := h
  obtain ⟨m, hm⟩ : ∃ m, m = l.length := ⟨_, rfl⟩
  have HM := Lib.hid hm
  have hml : m ≤ 2147483648 := by rw [hm]; exact hl
  rw [← hm] at hvc ⊢
  clear hm
  unfold maxLen at hvm
  obtain ⟨w0, hw0⟩ : ∃ w0, w0 = w.alloc (.cells x.cells.toArray 41) := ⟨_, rfl⟩
  have ee : Below w.heap.size w w0 := by rw [hw0]; exact (Below.refl _ _).alloc (Nat.le_refl _) _
  have Zt : w0.heap[w.heap.size]? = some (.cells x.cells.toArray 41) := by rw [hw0]; exact hpN _ _ rfl
  go_enter Tryd.func40, Tryd.ntmps40
  go_upto_region 1 with fail
  rw [← hw0]
  clear hw0
  go_upto_region 2 with fail
  refine wp_region_lit ?_
  iterate 6 go_step
  refine wpList_append_rd _ rfl (.tmp 6) (.tmp 7) 69 rfl w.heap.size 5 i0 (.int .u8 0) 1 Tryd.underlying69 hi hz0 hz1 hz2 rfl _ _ _ rfl (World.ownsRow_nil _ _ _ _) B vA m vc (bc l) rfl (by rw [bc_len, HM.out]) (fun h => (hA h).2) (hvr.belowM ee hB) (bc_one l) (by unfold maxLen; omega) (by omega) ee.size ?_
  intro v1 z1 ho_ hg_
  have t := belowNone hg_
  have Zt := hpB Zt t
  have ee := ee.trans (t.mono ee.size)
  have ho : z1.ownsRow w.heap.size 5 1 v1 l.length (bc l) := by rw [← HM.out]; simpa using ho_
  clear ho_ hg_ t
  iterate 3 go_step
  go_upto_region 3 with fail
  refine wp_region_lit ?_
  iterate 27 (first | with_reducible refine isLoad (ty := 41) rfl ?_ | go_step)
  refine wpList_load_mid rfl 41 _ rfl (w.heap.size) 0 rfl (x.cells) _ (rowAt Zt) Tryd.underlying41 rfl sizeRCm ?_
  go_wp2_with fail
  refine (HF.out z1 ee).mono ?_
  rintro e z2 ⟨rfl, t⟩
  have ho := ownBelow ho t
  have Zt := hpB Zt t
  have ee := ee.trans (t.mono ee.size)
  clear t
  clear HF
  have x0 := rowCell Zt 0 (v := .int .i64 0) HX0.out
  go_upto_region 5 with fail
  refine wp_region_lit ?_
  iterate 15 go_step
  have lZt := (Array.getElem?_eq_some_iff.1 Zt).1
  have Zt := hpA Zt (.cells #[.int .u8 (0 : Int)] 5)
  have sz_ := ee.size
  have ho := ho.alloc (.cells #[.int .u8 (0 : Int)] 5)
  have ee := ee.alloc ee.size (.cells #[.int .u8 (0 : Int)] 5)
  have ZN := hpN z2 (.cells #[.int .u8 (0 : Int)] 5) rfl
  generalize z2.alloc (.cells #[.int .u8 (0 : Int)] 5) = z3 at ho ZN Zt ee ⊢
  refine wpList_append_own _ rfl (.tmp 13) (.tmp 17) 69 rfl w.heap.size 5 i0 (.int .u8 0) 1 1 Tryd.underlying69 hi hz0 hz1 hz2 rfl (by decide) _ _ _ rfl ho ⟨z2.heap.size, 0, none⟩ 1 1 [.int .u8 (0 : Int)] rfl rfl (rowAdd (cs := [.int .u8 (0 : Int)]) ZN) (by simp [Value.oneCell']) (by unfold maxLen; omega) (by omega) ee.size ?_
  intro v2 z4 ho_ hg_ _
  clear ZN sz_
  have Zt := heapOwn Zt ho (by decide) hg_
  have ee := ee.grown hg_ ee.size (fun g hg => (ho.lt g hg).1)
  clear ho hg_
  have ho : z4.ownsRow w.heap.size 5 1 v2 (C.put l 0 1).length (bc (C.put l 0 1)) := byteOwn ho_ (by omega)
  clear ho_
  clear x0
  have x0 := rowCell Zt 0 (v := .int .i64 0) HX0.out
  go_wp2_with fail
  go_ret
  exact ⟨_, rfl, ho, ee⟩
set_option maxHeartbeats 6400000 in
theorem rcput_1 {w : World} {B : Nat} {v : Value} {l : List UInt8} (h : SlB w B v l) (hl : l.length ≤ 2147483648) (hB : B ≤ w.heap.size) (x : Cm) (ok : CmOk w w.heap.size x) (hf : x.formed = true) (hk : x.k = 1) : Calls Tryd.prog 40 #[v, .agg x.cells.toArray] w (MadeB w (tput (C.put l 1 1) x.s x.q x.rs x.ws)) := by
  have HX0 : Hid (x.cells[0]? = some (.int .i64 1)) := by show _ = _; rw [← hk]; rfl
  have HF := Lib.hid (fun z (hz : Below w.heap.size w z) => rcformed_any x.k x.s x.q x.rs x.ws x.A1 x.c1 x.A2 x.c2 x.i x.j x.g x.st x.y z w.heap.size hz.size (ok.below hz (Nat.le_refl _)))
  have HFE : Hid (x.formed = T.cformed x.k x.s x.q x.rs x.ws x.i x.j x.g x.st x.y) := rfl
  rw [← HFE.out, hf] at HF
  have HO := Lib.hid ok
  clear ok hf HFE
  have HL1 := put_len2 l 1 1
  clear hk
  obtain ⟨i0, hi, hz0, hz1, hz2⟩ := info_parts info_u8
  obtain ⟨vA, vc, rfl, hvc, hvm, hA, hvr⟩ := h
  obtain ⟨m, hm⟩ : ∃ m, m = l.length := ⟨_, rfl⟩
  have HM := Lib.hid hm
  have hml : m ≤ 2147483648 := by rw [hm]; exact hl
  rw [← hm] at hvc ⊢
  clear hm
  unfold maxLen at hvm
  obtain ⟨w0, hw0⟩ : ∃ w0, w0 = w.alloc (.cells x.cells.toArray 41) := ⟨_, rfl⟩
  have ee : Below w.heap.size w w0 := by rw [hw0]; exact (Below.refl _ _).alloc (Nat.le_refl _) _
  have Zt : w0.heap[w.heap.size]? = some (.cells x.cells.toArray 41) := by rw [hw0]; exact hpN _ _ rfl
  go_enter Tryd.func40, Tryd.ntmps40
  go_upto_region 1 with fail
  rw [← hw0]
  clear hw0
  go_upto_region 2 with fail
  refine wp_region_lit ?_
  iterate 6 go_step
  refine wpList_append_rd _ rfl (.tmp 6) (.tmp 7) 69 rfl w.heap.size 5 i0 (.int .u8 0) 1 Tryd.underlying69 hi hz0 hz1 hz2 rfl _ _ _ rfl (World.ownsRow_nil _ _ _ _) B vA m vc (bc l) rfl (by rw [bc_len, HM.out]) (fun h => (hA h).2) (hvr.belowM ee hB) (bc_one l) (by unfold maxLen; omega) (by omega) ee.size ?_
  intro v1 z1 ho_ hg_
  have t := belowNone hg_
  have Zt := hpB Zt t
  have ee := ee.trans (t.mono ee.size)
  have ho : z1.ownsRow w.heap.size 5 1 v1 l.length (bc l) := by rw [← HM.out]; simpa using ho_
  clear ho_ hg_ t
  iterate 3 go_step
  go_upto_region 3 with fail
  refine wp_region_lit ?_
  iterate 27 (first | with_reducible refine isLoad (ty := 41) rfl ?_ | go_step)
  refine wpList_load_mid rfl 41 _ rfl (w.heap.size) 0 rfl (x.cells) _ (rowAt Zt) Tryd.underlying41 rfl sizeRCm ?_
  go_wp2_with fail
  refine (HF.out z1 ee).mono ?_
  rintro e z2 ⟨rfl, t⟩
  have ho := ownBelow ho t
  have Zt := hpB Zt t
  have ee := ee.trans (t.mono ee.size)
  clear t
  clear HF
  have x0 := rowCell Zt 0 (v := .int .i64 1) HX0.out
  go_upto_region 5 with fail
  refine wp_region_lit ?_
  iterate 15 go_step
  have lZt := (Array.getElem?_eq_some_iff.1 Zt).1
  have Zt := hpA Zt (.cells #[.int .u8 (1 : Int)] 5)
  have sz_ := ee.size
  have ho := ho.alloc (.cells #[.int .u8 (1 : Int)] 5)
  have ee := ee.alloc ee.size (.cells #[.int .u8 (1 : Int)] 5)
  have ZN := hpN z2 (.cells #[.int .u8 (1 : Int)] 5) rfl
  generalize z2.alloc (.cells #[.int .u8 (1 : Int)] 5) = z3 at ho ZN Zt ee ⊢
  refine wpList_append_own _ rfl (.tmp 13) (.tmp 17) 69 rfl w.heap.size 5 i0 (.int .u8 0) 1 1 Tryd.underlying69 hi hz0 hz1 hz2 rfl (by decide) _ _ _ rfl ho ⟨z2.heap.size, 0, none⟩ 1 1 [.int .u8 (1 : Int)] rfl rfl (rowAdd (cs := [.int .u8 (1 : Int)]) ZN) (by simp [Value.oneCell']) (by unfold maxLen; omega) (by omega) ee.size ?_
  intro v2 z4 ho_ hg_ _
  clear ZN sz_
  have Zt := heapOwn Zt ho (by decide) hg_
  have ee := ee.grown hg_ ee.size (fun g hg => (ho.lt g hg).1)
  clear ho hg_
  have ho : z4.ownsRow w.heap.size 5 1 v2 (C.put l 1 1).length (bc (C.put l 1 1)) := byteOwn ho_ (by omega)
  clear ho_
  clear x0
  have x0 := rowCell Zt 0 (v := .int .i64 1) HX0.out
  go_upto_region 7 with fail
  refine wp_region_lit ?_
  iterate 27 (first | with_reducible refine isLoad (ty := 34) rfl ?_ | go_step)
  refine wpList_load_mid rfl 34 _ rfl (w.heap.size) 1 rfl ([.int .i64 x.s, .int .i64 x.q, .slice x.A1 x.rs.length x.c1, .slice x.A2 x.ws.length x.c2]) _ (rowMid Zt 1 (by intro j v hj; match j, hj with | 0, hj => exact hj | 1, hj => exact hj | 2, hj => exact hj | 3, hj => exact hj)) Tryd.underlying34 rfl sizeTx ?_
  clear x0
  go_wp2_with fail
  have sz_ := ee.size
  refine (rtput_s (SlB.ofOwn ho) (by omega) (Nat.le_refl _) x.s x.q x.rs x.ws x.A1 x.c1 x.A2 x.c2 (TxOk.more (TxOk.below HO.out ee (Nat.le_refl _)) ee.size)).mono ?_
  rintro e z5 ⟨v3, rfl, on_, t⟩
  clear ho
  have ho := ownMore on_ sz_
  clear on_ sz_
  have Zt := hpB Zt t
  have ee := ee.trans (t.mono ee.size)
  clear t
  go_wp2_with fail
  go_ret
  exact ⟨_, rfl, ho, ee⟩
set_option maxHeartbeats 6400000 in
theorem rcput_2 {w : World} {B : Nat} {v : Value} {l : List UInt8} (h : SlB w B v l) (hl : l.length ≤ 2147483648) (hB : B ≤ w.heap.size) (x : Cm) (ok : CmOk w w.heap.size x) (hf : x.formed = true) (hk : x.k = 2) (gn : Nat) (hg : x.g = (gn : Int)) (hg4 : gn < 4) (hst : x.st < 9223372036854775808) : Calls Tryd.prog 40 #[v, .agg x.cells.toArray] w (MadeB w (C.put (C.put (idput (C.put l 2 1) x.i x.j) gn 1) x.st 8)) := by
  have HX0 : Hid (x.cells[0]? = some (.int .i64 2)) := by show _ = _; rw [← hk]; rfl
  have HX7 : Hid (x.cells[7]? = some (.int .i64 (gn : Int))) := by show _ = _; rw [← hg]; rfl
  have HL2 := idput_len (C.put l 2 1) x.i x.j
  have HL3 := put_len2 (idput (C.put l 2 1) x.i x.j) gn 1
  have k1 : IntKind.u8.wrap (gn : Int) = (gn : Int) := wrap8 (by omega)
  clear hg
  have HF := Lib.hid (fun z (hz : Below w.heap.size w z) => rcformed_any x.k x.s x.q x.rs x.ws x.A1 x.c1 x.A2 x.c2 x.i x.j x.g x.st x.y z w.heap.size hz.size (ok.below hz (Nat.le_refl _)))
  have HFE : Hid (x.formed = T.cformed x.k x.s x.q x.rs x.ws x.i x.j x.g x.st x.y) := rfl
  rw [← HFE.out, hf] at HF
  have HO := Lib.hid ok
  clear ok hf HFE
  have HL1 := put_len2 l 2 1
  clear hk
  obtain ⟨i0, hi, hz0, hz1, hz2⟩ := info_parts info_u8
  obtain ⟨vA, vc, rfl, hvc, hvm, hA, hvr⟩ := h
  obtain ⟨m, hm⟩ : ∃ m, m = l.length := ⟨_, rfl⟩
  have HM := Lib.hid hm
  have hml : m ≤ 2147483648 := by rw [hm]; exact hl
  rw [← hm] at hvc ⊢
  clear hm
  unfold maxLen at hvm
  obtain ⟨w0, hw0⟩ : ∃ w0, w0 = w.alloc (.cells x.cells.toArray 41) := ⟨_, rfl⟩
  have ee : Below w.heap.size w w0 := by rw [hw0]; exact (Below.refl _ _).alloc (Nat.le_refl _) _
  have Zt : w0.heap[w.heap.size]? = some (.cells x.cells.toArray 41) := by rw [hw0]; exact hpN _ _ rfl
  go_enter Tryd.func40, Tryd.ntmps40
  go_upto_region 1 with fail
  rw [← hw0]
  clear hw0
  go_upto_region 2 with fail
  refine wp_region_lit ?_
  iterate 6 go_step
  refine wpList_append_rd _ rfl (.tmp 6) (.tmp 7) 69 rfl w.heap.size 5 i0 (.int .u8 0) 1 Tryd.underlying69 hi hz0 hz1 hz2 rfl _ _ _ rfl (World.ownsRow_nil _ _ _ _) B vA m vc (bc l) rfl (by rw [bc_len, HM.out]) (fun h => (hA h).2) (hvr.belowM ee hB) (bc_one l) (by unfold maxLen; omega) (by omega) ee.size ?_
  intro v1 z1 ho_ hg_
  have t := belowNone hg_
  have Zt := hpB Zt t
  have ee := ee.trans (t.mono ee.size)
  have ho : z1.ownsRow w.heap.size 5 1 v1 l.length (bc l) := by rw [← HM.out]; simpa using ho_
  clear ho_ hg_ t
  iterate 3 go_step
  go_upto_region 3 with fail
  refine wp_region_lit ?_
  iterate 27 (first | with_reducible refine isLoad (ty := 41) rfl ?_ | go_step)
  refine wpList_load_mid rfl 41 _ rfl (w.heap.size) 0 rfl (x.cells) _ (rowAt Zt) Tryd.underlying41 rfl sizeRCm ?_
  go_wp2_with fail
  refine (HF.out z1 ee).mono ?_
  rintro e z2 ⟨rfl, t⟩
  have ho := ownBelow ho t
  have Zt := hpB Zt t
  have ee := ee.trans (t.mono ee.size)
  clear t
  clear HF
  have x0 := rowCell Zt 0 (v := .int .i64 2) HX0.out
  go_upto_region 5 with fail
  refine wp_region_lit ?_
  iterate 15 go_step
  have lZt := (Array.getElem?_eq_some_iff.1 Zt).1
  have Zt := hpA Zt (.cells #[.int .u8 (2 : Int)] 5)
  have sz_ := ee.size
  have ho := ho.alloc (.cells #[.int .u8 (2 : Int)] 5)
  have ee := ee.alloc ee.size (.cells #[.int .u8 (2 : Int)] 5)
  have ZN := hpN z2 (.cells #[.int .u8 (2 : Int)] 5) rfl
  generalize z2.alloc (.cells #[.int .u8 (2 : Int)] 5) = z3 at ho ZN Zt ee ⊢
  refine wpList_append_own _ rfl (.tmp 13) (.tmp 17) 69 rfl w.heap.size 5 i0 (.int .u8 0) 1 1 Tryd.underlying69 hi hz0 hz1 hz2 rfl (by decide) _ _ _ rfl ho ⟨z2.heap.size, 0, none⟩ 1 1 [.int .u8 (2 : Int)] rfl rfl (rowAdd (cs := [.int .u8 (2 : Int)]) ZN) (by simp [Value.oneCell']) (by unfold maxLen; omega) (by omega) ee.size ?_
  intro v2 z4 ho_ hg_ _
  clear ZN sz_
  have Zt := heapOwn Zt ho (by decide) hg_
  have ee := ee.grown hg_ ee.size (fun g hg => (ho.lt g hg).1)
  clear ho hg_
  have ho : z4.ownsRow w.heap.size 5 1 v2 (C.put l 2 1).length (bc (C.put l 2 1)) := byteOwn ho_ (by omega)
  clear ho_
  clear x0
  have x0 := rowCell Zt 0 (v := .int .i64 2) HX0.out
  go_upto_region 10 with fail
  clear x0
  have x5 := rowCell Zt 5 (v := .int .i64 x.i) rfl
  have x6 := rowCell Zt 6 (v := .int .i64 x.j) rfl
  go_wp2_with fail
  have sz_ := ee.size
  refine (rputid_s (SlB.ofOwn ho) (by omega) (Nat.le_refl _) x.i x.j).mono ?_
  rintro e z5 ⟨v3, rfl, on_, t⟩
  clear ho
  have ho := ownMore on_ sz_
  clear on_ sz_
  have Zt := hpB Zt t
  have ee := ee.trans (t.mono ee.size)
  clear t
  clear x5 x6
  go_upto_region 11 with fail
  have x7 := rowCell Zt 7 (v := .int .i64 (gn : Int)) HX7.out
  refine wp_region_lit ?_
  iterate 15 go_step
  have lZt := (Array.getElem?_eq_some_iff.1 Zt).1
  have Zt := hpA Zt (.cells #[.int .u8 (gn : Int)] 5)
  have sz_ := ee.size
  have ho := ho.alloc (.cells #[.int .u8 (gn : Int)] 5)
  have ee := ee.alloc ee.size (.cells #[.int .u8 (gn : Int)] 5)
  have ZN := hpN z5 (.cells #[.int .u8 (gn : Int)] 5) rfl
  generalize z5.alloc (.cells #[.int .u8 (gn : Int)] 5) = z6 at ho ZN Zt ee ⊢
  refine wpList_append_own _ rfl (.tmp 34) (.tmp 38) 69 rfl w.heap.size 5 i0 (.int .u8 0) 1 1 Tryd.underlying69 hi hz0 hz1 hz2 rfl (by decide) _ _ _ rfl ho ⟨z5.heap.size, 0, none⟩ 1 1 [.int .u8 (gn : Int)] rfl rfl (rowAdd (cs := [.int .u8 (gn : Int)]) ZN) (by simp [Value.oneCell']) (by unfold maxLen; omega) (by omega) ee.size ?_
  intro v4 z7 ho_ hg_ _
  clear ZN sz_
  have Zt := heapOwn Zt ho (by decide) hg_
  have ee := ee.grown hg_ ee.size (fun g hg => (ho.lt g hg).1)
  clear ho hg_
  have ho : z7.ownsRow w.heap.size 5 1 v4 (C.put (idput (C.put l 2 1) x.i x.j) gn 1).length (bc (C.put (idput (C.put l 2 1) x.i x.j) gn 1)) := byteOwn ho_ (by omega)
  clear ho_
  clear x7 k1
  have x0 := rowCell Zt 0 (v := .int .i64 2) HX0.out
  have x8 := rowCell Zt 8 (v := .int .u64 (x.st : Int)) rfl
  go_wp2_with fail
  have sz_ := ee.size
  refine (rput_o ho (by omega) x.st (by omega) 8 (by omega) (by omega)).mono ?_
  rintro e z8 ⟨v5, rfl, on_, t⟩
  clear ho
  have ho := ownMore on_ sz_
  clear on_ sz_
  have Zt := hpB Zt t
  have ee := ee.trans (t.mono ee.size)
  clear t
  go_wp2_with fail
  go_ret
  exact ⟨_, rfl, ho, ee⟩
set_option maxHeartbeats 6400000 in
theorem rcput_3f {w : World} {B : Nat} {v : Value} {l : List UInt8} (h : SlB w B v l) (hl : l.length ≤ 2147483648) (hB : B ≤ w.heap.size) (x : Cm) (ok : CmOk w w.heap.size x) (hf : x.formed = true) (hk : x.k = 3) (gn : Nat) (hg : x.g = (gn : Int)) (hg4 : gn < 4) (hy : x.y = false) : Calls Tryd.prog 40 #[v, .agg x.cells.toArray] w (MadeB w (C.put (C.put (idput (C.put l 3 1) x.i x.j) gn 1) 0 1)) := by
  have HX0 : Hid (x.cells[0]? = some (.int .i64 3)) := by show _ = _; rw [← hk]; rfl
  have HX9 : Hid (x.cells[9]? = some (.bool false)) := by show _ = _; rw [← hy]; rfl
  clear hy
  have HX7 : Hid (x.cells[7]? = some (.int .i64 (gn : Int))) := by show _ = _; rw [← hg]; rfl
  have HL2 := idput_len (C.put l 3 1) x.i x.j
  have HL3 := put_len2 (idput (C.put l 3 1) x.i x.j) gn 1
  have k1 : IntKind.u8.wrap (gn : Int) = (gn : Int) := wrap8 (by omega)
  clear hg
  have HF := Lib.hid (fun z (hz : Below w.heap.size w z) => rcformed_any x.k x.s x.q x.rs x.ws x.A1 x.c1 x.A2 x.c2 x.i x.j x.g x.st x.y z w.heap.size hz.size (ok.below hz (Nat.le_refl _)))
  have HFE : Hid (x.formed = T.cformed x.k x.s x.q x.rs x.ws x.i x.j x.g x.st x.y) := rfl
  rw [← HFE.out, hf] at HF
  have HO := Lib.hid ok
  clear ok hf HFE
  have HL1 := put_len2 l 3 1
  clear hk
  obtain ⟨i0, hi, hz0, hz1, hz2⟩ := info_parts info_u8
  obtain ⟨vA, vc, rfl, hvc, hvm, hA, hvr⟩ := h
  obtain ⟨m, hm⟩ : ∃ m, m = l.length := ⟨_, rfl⟩
  have HM := Lib.hid hm
  have hml : m ≤ 2147483648 := by rw [hm]; exact hl
  rw [← hm] at hvc ⊢
  clear hm
  unfold maxLen at hvm
  obtain ⟨w0, hw0⟩ : ∃ w0, w0 = w.alloc (.cells x.cells.toArray 41) := ⟨_, rfl⟩
  have ee : Below w.heap.size w w0 := by rw [hw0]; exact (Below.refl _ _).alloc (Nat.le_refl _) _
  have Zt : w0.heap[w.heap.size]? = some (.cells x.cells.toArray 41) := by rw [hw0]; exact hpN _ _ rfl
  go_enter Tryd.func40, Tryd.ntmps40
  go_upto_region 1 with fail
  rw [← hw0]
  clear hw0
  go_upto_region 2 with fail
  refine wp_region_lit ?_
  iterate 6 go_step
  refine wpList_append_rd _ rfl (.tmp 6) (.tmp 7) 69 rfl w.heap.size 5 i0 (.int .u8 0) 1 Tryd.underlying69 hi hz0 hz1 hz2 rfl _ _ _ rfl (World.ownsRow_nil _ _ _ _) B vA m vc (bc l) rfl (by rw [bc_len, HM.out]) (fun h => (hA h).2) (hvr.belowM ee hB) (bc_one l) (by unfold maxLen; omega) (by omega) ee.size ?_
  intro v1 z1 ho_ hg_
  have t := belowNone hg_
  have Zt := hpB Zt t
  have ee := ee.trans (t.mono ee.size)
  have ho : z1.ownsRow w.heap.size 5 1 v1 l.length (bc l) := by rw [← HM.out]; simpa using ho_
  clear ho_ hg_ t
  iterate 3 go_step
  go_upto_region 3 with fail
  refine wp_region_lit ?_
  iterate 27 (first | with_reducible refine isLoad (ty := 41) rfl ?_ | go_step)
  refine wpList_load_mid rfl 41 _ rfl (w.heap.size) 0 rfl (x.cells) _ (rowAt Zt) Tryd.underlying41 rfl sizeRCm ?_
  go_wp2_with fail
  refine (HF.out z1 ee).mono ?_
  rintro e z2 ⟨rfl, t⟩
  have ho := ownBelow ho t
  have Zt := hpB Zt t
  have ee := ee.trans (t.mono ee.size)
  clear t
  clear HF
  have x0 := rowCell Zt 0 (v := .int .i64 3) HX0.out
  go_upto_region 5 with fail
  refine wp_region_lit ?_
  iterate 15 go_step
  have lZt := (Array.getElem?_eq_some_iff.1 Zt).1
  have Zt := hpA Zt (.cells #[.int .u8 (3 : Int)] 5)
  have sz_ := ee.size
  have ho := ho.alloc (.cells #[.int .u8 (3 : Int)] 5)
  have ee := ee.alloc ee.size (.cells #[.int .u8 (3 : Int)] 5)
  have ZN := hpN z2 (.cells #[.int .u8 (3 : Int)] 5) rfl
  generalize z2.alloc (.cells #[.int .u8 (3 : Int)] 5) = z3 at ho ZN Zt ee ⊢
  refine wpList_append_own _ rfl (.tmp 13) (.tmp 17) 69 rfl w.heap.size 5 i0 (.int .u8 0) 1 1 Tryd.underlying69 hi hz0 hz1 hz2 rfl (by decide) _ _ _ rfl ho ⟨z2.heap.size, 0, none⟩ 1 1 [.int .u8 (3 : Int)] rfl rfl (rowAdd (cs := [.int .u8 (3 : Int)]) ZN) (by simp [Value.oneCell']) (by unfold maxLen; omega) (by omega) ee.size ?_
  intro v2 z4 ho_ hg_ _
  clear ZN sz_
  have Zt := heapOwn Zt ho (by decide) hg_
  have ee := ee.grown hg_ ee.size (fun g hg => (ho.lt g hg).1)
  clear ho hg_
  have ho : z4.ownsRow w.heap.size 5 1 v2 (C.put l 3 1).length (bc (C.put l 3 1)) := byteOwn ho_ (by omega)
  clear ho_
  clear x0
  have x0 := rowCell Zt 0 (v := .int .i64 3) HX0.out
  go_upto_region 10 with fail
  clear x0
  have x5 := rowCell Zt 5 (v := .int .i64 x.i) rfl
  have x6 := rowCell Zt 6 (v := .int .i64 x.j) rfl
  go_wp2_with fail
  have sz_ := ee.size
  refine (rputid_s (SlB.ofOwn ho) (by omega) (Nat.le_refl _) x.i x.j).mono ?_
  rintro e z5 ⟨v3, rfl, on_, t⟩
  clear ho
  have ho := ownMore on_ sz_
  clear on_ sz_
  have Zt := hpB Zt t
  have ee := ee.trans (t.mono ee.size)
  clear t
  clear x5 x6
  go_upto_region 11 with fail
  have x7 := rowCell Zt 7 (v := .int .i64 (gn : Int)) HX7.out
  refine wp_region_lit ?_
  iterate 15 go_step
  have lZt := (Array.getElem?_eq_some_iff.1 Zt).1
  have Zt := hpA Zt (.cells #[.int .u8 (gn : Int)] 5)
  have sz_ := ee.size
  have ho := ho.alloc (.cells #[.int .u8 (gn : Int)] 5)
  have ee := ee.alloc ee.size (.cells #[.int .u8 (gn : Int)] 5)
  have ZN := hpN z5 (.cells #[.int .u8 (gn : Int)] 5) rfl
  generalize z5.alloc (.cells #[.int .u8 (gn : Int)] 5) = z6 at ho ZN Zt ee ⊢
  refine wpList_append_own _ rfl (.tmp 34) (.tmp 38) 69 rfl w.heap.size 5 i0 (.int .u8 0) 1 1 Tryd.underlying69 hi hz0 hz1 hz2 rfl (by decide) _ _ _ rfl ho ⟨z5.heap.size, 0, none⟩ 1 1 [.int .u8 (gn : Int)] rfl rfl (rowAdd (cs := [.int .u8 (gn : Int)]) ZN) (by simp [Value.oneCell']) (by unfold maxLen; omega) (by omega) ee.size ?_
  intro v4 z7 ho_ hg_ _
  clear ZN sz_
  have Zt := heapOwn Zt ho (by decide) hg_
  have ee := ee.grown hg_ ee.size (fun g hg => (ho.lt g hg).1)
  clear ho hg_
  have ho : z7.ownsRow w.heap.size 5 1 v4 (C.put (idput (C.put l 3 1) x.i x.j) gn 1).length (bc (C.put (idput (C.put l 3 1) x.i x.j) gn 1)) := byteOwn ho_ (by omega)
  clear ho_
  clear x7 k1
  have x0 := rowCell Zt 0 (v := .int .i64 3) HX0.out
  have x9 := rowCell Zt 9 (v := .bool false) HX9.out
  go_upto_region 16 with fail
  clear x0 x9
  refine wp_region_lit ?_
  iterate 6 go_step
  have lZt := (Array.getElem?_eq_some_iff.1 Zt).1
  have Zt := hpA Zt (.cells #[.int .u8 (0 : Int)] 5)
  have sz_ := ee.size
  have ho := ho.alloc (.cells #[.int .u8 (0 : Int)] 5)
  have ee := ee.alloc ee.size (.cells #[.int .u8 (0 : Int)] 5)
  have ZN := hpN z7 (.cells #[.int .u8 (0 : Int)] 5) rfl
  generalize z7.alloc (.cells #[.int .u8 (0 : Int)] 5) = z8 at ho ZN Zt ee ⊢
  refine wpList_append_own _ rfl (.tmp 52) (.tmp 53) 69 rfl w.heap.size 5 i0 (.int .u8 0) 1 1 Tryd.underlying69 hi hz0 hz1 hz2 rfl (by decide) _ _ _ rfl ho ⟨z7.heap.size, 0, none⟩ 1 1 [.int .u8 (0 : Int)] rfl rfl (rowAdd (cs := [.int .u8 (0 : Int)]) ZN) (by simp [Value.oneCell']) (by unfold maxLen; omega) (by omega) ee.size ?_
  intro v5 z9 ho_ hg_ _
  clear ZN sz_
  have Zt := heapOwn Zt ho (by decide) hg_
  have ee := ee.grown hg_ ee.size (fun g hg => (ho.lt g hg).1)
  clear ho hg_
  have ho : z9.ownsRow w.heap.size 5 1 v5 (C.put (C.put (idput (C.put l 3 1) x.i x.j) gn 1) 0 1).length (bc (C.put (C.put (idput (C.put l 3 1) x.i x.j) gn 1) 0 1)) := byteOwn ho_ (by omega)
  clear ho_
  go_wp2_with fail
  go_ret
  exact ⟨_, rfl, ho, ee⟩
set_option maxHeartbeats 6400000 in
theorem rcput_3t {w : World} {B : Nat} {v : Value} {l : List UInt8} (h : SlB w B v l) (hl : l.length ≤ 2147483648) (hB : B ≤ w.heap.size) (x : Cm) (ok : CmOk w w.heap.size x) (hf : x.formed = true) (hk : x.k = 3) (gn : Nat) (hg : x.g = (gn : Int)) (hg4 : gn < 4) (hy : x.y = true) : Calls Tryd.prog 40 #[v, .agg x.cells.toArray] w (MadeB w (C.put (C.put (idput (C.put l 3 1) x.i x.j) gn 1) 1 1)) := by
  have HX0 : Hid (x.cells[0]? = some (.int .i64 3)) := by show _ = _; rw [← hk]; rfl
  have HX9 : Hid (x.cells[9]? = some (.bool true)) := by show _ = _; rw [← hy]; rfl
  clear hy
  have HX7 : Hid (x.cells[7]? = some (.int .i64 (gn : Int))) := by show _ = _; rw [← hg]; rfl
  have HL2 := idput_len (C.put l 3 1) x.i x.j
  have HL3 := put_len2 (idput (C.put l 3 1) x.i x.j) gn 1
  have k1 : IntKind.u8.wrap (gn : Int) = (gn : Int) := wrap8 (by omega)
  clear hg
  have HF := Lib.hid (fun z (hz : Below w.heap.size w z) => rcformed_any x.k x.s x.q x.rs x.ws x.A1 x.c1 x.A2 x.c2 x.i x.j x.g x.st x.y z w.heap.size hz.size (ok.below hz (Nat.le_refl _)))
  have HFE : Hid (x.formed = T.cformed x.k x.s x.q x.rs x.ws x.i x.j x.g x.st x.y) := rfl
  rw [← HFE.out, hf] at HF
  have HO := Lib.hid ok
  clear ok hf HFE
  have HL1 := put_len2 l 3 1
  clear hk
  obtain ⟨i0, hi, hz0, hz1, hz2⟩ := info_parts info_u8
  obtain ⟨vA, vc, rfl, hvc, hvm, hA, hvr⟩ := h
  obtain ⟨m, hm⟩ : ∃ m, m = l.length := ⟨_, rfl⟩
  have HM := Lib.hid hm
  have hml : m ≤ 2147483648 := by rw [hm]; exact hl
  rw [← hm] at hvc ⊢
  clear hm
  unfold maxLen at hvm
  obtain ⟨w0, hw0⟩ : ∃ w0, w0 = w.alloc (.cells x.cells.toArray 41) := ⟨_, rfl⟩
  have ee : Below w.heap.size w w0 := by rw [hw0]; exact (Below.refl _ _).alloc (Nat.le_refl _) _
  have Zt : w0.heap[w.heap.size]? = some (.cells x.cells.toArray 41) := by rw [hw0]; exact hpN _ _ rfl
  go_enter Tryd.func40, Tryd.ntmps40
  go_upto_region 1 with fail
  rw [← hw0]
  clear hw0
  go_upto_region 2 with fail
  refine wp_region_lit ?_
  iterate 6 go_step
  refine wpList_append_rd _ rfl (.tmp 6) (.tmp 7) 69 rfl w.heap.size 5 i0 (.int .u8 0) 1 Tryd.underlying69 hi hz0 hz1 hz2 rfl _ _ _ rfl (World.ownsRow_nil _ _ _ _) B vA m vc (bc l) rfl (by rw [bc_len, HM.out]) (fun h => (hA h).2) (hvr.belowM ee hB) (bc_one l) (by unfold maxLen; omega) (by omega) ee.size ?_
  intro v1 z1 ho_ hg_
  have t := belowNone hg_
  have Zt := hpB Zt t
  have ee := ee.trans (t.mono ee.size)
  have ho : z1.ownsRow w.heap.size 5 1 v1 l.length (bc l) := by rw [← HM.out]; simpa using ho_
  clear ho_ hg_ t
  iterate 3 go_step
  go_upto_region 3 with fail
  refine wp_region_lit ?_
  iterate 27 (first | with_reducible refine isLoad (ty := 41) rfl ?_ | go_step)
  refine wpList_load_mid rfl 41 _ rfl (w.heap.size) 0 rfl (x.cells) _ (rowAt Zt) Tryd.underlying41 rfl sizeRCm ?_
  go_wp2_with fail
  refine (HF.out z1 ee).mono ?_
  rintro e z2 ⟨rfl, t⟩
  have ho := ownBelow ho t
  have Zt := hpB Zt t
  have ee := ee.trans (t.mono ee.size)
  clear t
  clear HF
  have x0 := rowCell Zt 0 (v := .int .i64 3) HX0.out
  go_upto_region 5 with fail
  refine wp_region_lit ?_
  iterate 15 go_step
  have lZt := (Array.getElem?_eq_some_iff.1 Zt).1
  have Zt := hpA Zt (.cells #[.int .u8 (3 : Int)] 5)
  have sz_ := ee.size
  have ho := ho.alloc (.cells #[.int .u8 (3 : Int)] 5)
  have ee := ee.alloc ee.size (.cells #[.int .u8 (3 : Int)] 5)
  have ZN := hpN z2 (.cells #[.int .u8 (3 : Int)] 5) rfl
  generalize z2.alloc (.cells #[.int .u8 (3 : Int)] 5) = z3 at ho ZN Zt ee ⊢
  refine wpList_append_own _ rfl (.tmp 13) (.tmp 17) 69 rfl w.heap.size 5 i0 (.int .u8 0) 1 1 Tryd.underlying69 hi hz0 hz1 hz2 rfl (by decide) _ _ _ rfl ho ⟨z2.heap.size, 0, none⟩ 1 1 [.int .u8 (3 : Int)] rfl rfl (rowAdd (cs := [.int .u8 (3 : Int)]) ZN) (by simp [Value.oneCell']) (by unfold maxLen; omega) (by omega) ee.size ?_
  intro v2 z4 ho_ hg_ _
  clear ZN sz_
  have Zt := heapOwn Zt ho (by decide) hg_
  have ee := ee.grown hg_ ee.size (fun g hg => (ho.lt g hg).1)
  clear ho hg_
  have ho : z4.ownsRow w.heap.size 5 1 v2 (C.put l 3 1).length (bc (C.put l 3 1)) := byteOwn ho_ (by omega)
  clear ho_
  clear x0
  have x0 := rowCell Zt 0 (v := .int .i64 3) HX0.out
  go_upto_region 10 with fail
  clear x0
  have x5 := rowCell Zt 5 (v := .int .i64 x.i) rfl
  have x6 := rowCell Zt 6 (v := .int .i64 x.j) rfl
  go_wp2_with fail
  have sz_ := ee.size
  refine (rputid_s (SlB.ofOwn ho) (by omega) (Nat.le_refl _) x.i x.j).mono ?_
  rintro e z5 ⟨v3, rfl, on_, t⟩
  clear ho
  have ho := ownMore on_ sz_
  clear on_ sz_
  have Zt := hpB Zt t
  have ee := ee.trans (t.mono ee.size)
  clear t
  clear x5 x6
  go_upto_region 11 with fail
  have x7 := rowCell Zt 7 (v := .int .i64 (gn : Int)) HX7.out
  refine wp_region_lit ?_
  iterate 15 go_step
  have lZt := (Array.getElem?_eq_some_iff.1 Zt).1
  have Zt := hpA Zt (.cells #[.int .u8 (gn : Int)] 5)
  have sz_ := ee.size
  have ho := ho.alloc (.cells #[.int .u8 (gn : Int)] 5)
  have ee := ee.alloc ee.size (.cells #[.int .u8 (gn : Int)] 5)
  have ZN := hpN z5 (.cells #[.int .u8 (gn : Int)] 5) rfl
  generalize z5.alloc (.cells #[.int .u8 (gn : Int)] 5) = z6 at ho ZN Zt ee ⊢
  refine wpList_append_own _ rfl (.tmp 34) (.tmp 38) 69 rfl w.heap.size 5 i0 (.int .u8 0) 1 1 Tryd.underlying69 hi hz0 hz1 hz2 rfl (by decide) _ _ _ rfl ho ⟨z5.heap.size, 0, none⟩ 1 1 [.int .u8 (gn : Int)] rfl rfl (rowAdd (cs := [.int .u8 (gn : Int)]) ZN) (by simp [Value.oneCell']) (by unfold maxLen; omega) (by omega) ee.size ?_
  intro v4 z7 ho_ hg_ _
  clear ZN sz_
  have Zt := heapOwn Zt ho (by decide) hg_
  have ee := ee.grown hg_ ee.size (fun g hg => (ho.lt g hg).1)
  clear ho hg_
  have ho : z7.ownsRow w.heap.size 5 1 v4 (C.put (idput (C.put l 3 1) x.i x.j) gn 1).length (bc (C.put (idput (C.put l 3 1) x.i x.j) gn 1)) := byteOwn ho_ (by omega)
  clear ho_
  clear x7 k1
  have x0 := rowCell Zt 0 (v := .int .i64 3) HX0.out
  have x9 := rowCell Zt 9 (v := .bool true) HX9.out
  go_upto_region 15 with fail
  clear x0 x9
  refine wp_region_lit ?_
  iterate 6 go_step
  have lZt := (Array.getElem?_eq_some_iff.1 Zt).1
  have Zt := hpA Zt (.cells #[.int .u8 (1 : Int)] 5)
  have sz_ := ee.size
  have ho := ho.alloc (.cells #[.int .u8 (1 : Int)] 5)
  have ee := ee.alloc ee.size (.cells #[.int .u8 (1 : Int)] 5)
  have ZN := hpN z7 (.cells #[.int .u8 (1 : Int)] 5) rfl
  generalize z7.alloc (.cells #[.int .u8 (1 : Int)] 5) = z8 at ho ZN Zt ee ⊢
  refine wpList_append_own _ rfl (.tmp 49) (.tmp 50) 69 rfl w.heap.size 5 i0 (.int .u8 0) 1 1 Tryd.underlying69 hi hz0 hz1 hz2 rfl (by decide) _ _ _ rfl ho ⟨z7.heap.size, 0, none⟩ 1 1 [.int .u8 (1 : Int)] rfl rfl (rowAdd (cs := [.int .u8 (1 : Int)]) ZN) (by simp [Value.oneCell']) (by unfold maxLen; omega) (by omega) ee.size ?_
  intro v5 z9 ho_ hg_ _
  clear ZN sz_
  have Zt := heapOwn Zt ho (by decide) hg_
  have ee := ee.grown hg_ ee.size (fun g hg => (ho.lt g hg).1)
  clear ho hg_
  have ho : z9.ownsRow w.heap.size 5 1 v5 (C.put (C.put (idput (C.put l 3 1) x.i x.j) gn 1) 1 1).length (bc (C.put (C.put (idput (C.put l 3 1) x.i x.j) gn 1) 1 1)) := byteOwn ho_ (by omega)
  clear ho_
  go_wp2_with fail
  go_ret
  exact ⟨_, rfl, ho, ee⟩
theorem rcput_s {w : World} {B : Nat} {v : Value} {l : List UInt8} (h : SlB w B v l) (hl : l.length ≤ 2147483648) (hB : B ≤ w.heap.size) (x : Cm) (ok : CmOk w w.heap.size x) : Calls Tryd.prog 40 #[v, .agg x.cells.toArray] w (MadeB w (cput l x)) := by
  unfold cput
  cases hf : x.formed with
  | false => exact rcput_no h hl hB x ok hf
  | true =>
    rw [cond_true]
    rcases cformed_k hf with hk | hk | hk | hk
    · rw [if_neg (by omega), if_neg (by omega), if_neg (by omega)]; exact rcput_0 h hl hB x ok hf hk
    · rw [if_pos hk]; exact rcput_1 h hl hB x ok hf hk
    · rw [if_neg (by omega), if_pos hk]
      obtain ⟨_, _, h3, h4, h5, h6⟩ := cformed_2 hf hk
      exact rcput_2 h hl hB x ok hf hk x.g.toNat (by omega) (by omega) h6
    · rw [if_neg (by omega), if_neg (by omega), if_pos hk]
      obtain ⟨_, _, h3, h4⟩ := cformed_3 hf hk
      cases hy : x.y with
      | false => exact rcput_3f h hl hB x ok hf hk x.g.toNat (by omega) (by omega) hy
      | true => exact rcput_3t h hl hB x ok hf hk x.g.toNat (by omega) (by omega) hy
end Go.Proofs.YtkfnepmiigkdfaaDoor

namespace Go.Proofs.YtkfnepmiigkdfaaDoor
set_option maxRecDepth 20001
open Go.RowKit
set_option linter.unusedSimpArgs false
set_option linter.unusedVariables false
set_option maxHeartbeats 1600000 in
theorem samed_any (A B : Option Addr) (c d : Nat) (l m : List UInt8) (w : World) (b1 b2 : Nat) (hl : l.length ≤ 1099511627776) (hm : m.length ≤ 1099511627776) (hA : Rd w b1 A (bc l)) (hB : Rd w b2 B (bc m)) (hc : l.length ≤ c) (hd : m.length ≤ d) :
    Calls Tryd.prog 30 #[.slice A l.length c, .slice B m.length d] w fun e w' => e = .returned (.bool (decide (l = m))) ∧ Below w.heap.size w w' := by
  obtain ⟨p, hp⟩ : ∃ p : Bool, p = decide (l = m) := ⟨_, rfl⟩
  have HP : Hid (decide (l = m) = p) := hp.symm
  rw [← hp]
  clear hp
  by_cases hlen : l.length = m.length
  · obtain ⟨n, hn⟩ : ∃ n, n = l.length := ⟨_, rfl⟩
    have HN := Lib.hid hn
    have HM : Hid (n = m.length) := by show _ = _; omega
    rw [← hlen, ← hn]
    rw [← hn] at hl hc
    rw [← HM.out] at hd hm
    clear hn hlen
    go_enter Tryd.func30, Tryd.ntmps30
    go_wp2_with fail
    go_loopw [5] (fun i wr => ∃ k q : Nat, k ≤ n ∧ i = .int .i64 k ∧ wr = w.drewN q ∧ Hid (l.take k = m.take k)) (fun i _ => n - (intOf i).toNat)
    case atStart => exact ⟨0, 0, Nat.zero_le _, rfl, rfl, rfl⟩
    case round =>
      obtain ⟨k, q, hk, rfl, rfl, HT⟩ := hrel
      by_cases hlt : k < n
      · have hkl : k < l.length := by rw [← HN.out]; exact hlt
        have hkm : k < m.length := by rw [← HM.out]; exact hlt
        obtain ⟨ab, ao, rfl, _, hca⟩ := hA.at_ (show k < (bc l).length by rw [bc_len]; exact hkl)
        obtain ⟨bb, bo, rfl, _, hcb⟩ := hB.at_ (show k < (bc m).length by rw [bc_len]; exact hkm)
        rw [bc_get] at hca hcb
        have HL : Hid (l.take (k + 1) = l.take k ++ [l[k]'hkl]) := List.take_succ_eq_append_getElem hkl
        have HR : Hid (m.take (k + 1) = m.take k ++ [m[k]'hkm]) := List.take_succ_eq_append_getElem hkm
        generalize l[k] = x at hca HL
        generalize m[k] = y at hcb HR
        have hb0 : (0 : Int) ≤ (k : Int) := by omega
        have hb1 : (k : Int) < (n : Int) := by omega
        by_cases hxy : x = y
        · subst hxy
          have HT2 : Hid (l.take (k + 1) = m.take (k + 1)) := by show _ = _; rw [HL.out, HR.out, HT.out]
          clear HL HR hkl hkm
          generalize (x.toNat : Int) = xi at hca hcb
          go_wp2_with fail
          go_quiet (fail)
          go_wp2_with fail
          go_roundw
          case rel => exact ⟨k + 1, _, by omega, by go_num, rfl, HT2⟩
          case measure => simp [intOf]; omega
        · have HF : Hid (false = p) := by
            show _ = _
            rw [← HP.out]
            refine (decide_eq_false fun e => hxy ?_).symm
            have h1 := HL.out
            rw [e, HR.out, ← HT.out] at h1
            have h2 := List.append_cancel_left h1
            injection h2 with h2
            exact h2.symm
          have hne : ((x.toNat : Int) == (y.toNat : Int)) = false := by
            rw [beq_eq_false_iff_ne]
            intro h
            exact hxy (UInt8.toNat_inj.1 (by omega))
          clear HL HR hkl hkm hxy
          generalize (x.toNat : Int) = xi at hca hne
          generalize (y.toNat : Int) = yi at hcb hne
          go_wp2_with fail
          go_quiet (fail)
          go_wp2_with fail
          go_ret
          exact ⟨ret_bool HF.out, belowDrewN (belowDrewN (Below.refl _ _) _) _⟩
      · have HF : Hid (true = p) := by
          show _ = _
          rw [← HP.out]
          have e : k = n := by omega
          have h1 := HT.out
          rw [e, List.take_of_length_le (by rw [← HN.out]; exact Nat.le_refl _), List.take_of_length_le (by rw [← HM.out]; exact Nat.le_refl _)] at h1
          exact (decide_eq_true h1).symm
        go_wp2_with fail
        go_ret
        exact ⟨ret_bool HF.out, belowDrewN (Below.refl _ _) _⟩
  · have HF : Hid (false = p) := by
      show _ = _
      rw [← HP.out]
      exact (decide_eq_false fun e => hlen (by rw [e])).symm
    have hne : ((l.length : Int) == (m.length : Int)) = false := by rw [beq_eq_false_iff_ne]; omega
    clear hlen
    generalize l.length = n1 at *
    generalize m.length = n2 at *
    go_enter Tryd.func30, Tryd.ntmps30
    go_wp2_with fail
    go_ret
    exact ⟨ret_bool HF.out, Below.refl _ _⟩
theorem samed_s {w : World} {B1 B2 : Nat} {v u : Value} {l m : List UInt8} (h : SlB w B1 v l) (g : SlB w B2 u m) (hl : l.length ≤ 1099511627776) (hm : m.length ≤ 1099511627776) :
    Calls Tryd.prog 30 #[v, u] w fun e w' => e = .returned (.bool (decide (l = m))) ∧ Below w.heap.size w w' := by
  obtain ⟨A, c, rfl, hc, hmx, hA, hr⟩ := h
  obtain ⟨A', c', rfl, hc', hmx', hA', hr'⟩ := g
  exact samed_any A A' c c' l m w _ _ hl hm hr hr' hc hc'
end Go.Proofs.YtkfnepmiigkdfaaDoor

namespace Go.Proofs.YtkfnepmiigkdfaaDoor
set_option maxRecDepth 20001
open Go.RowKit T
set_option linter.unusedSimpArgs false
set_option linter.unusedVariables false

def T.label (k s q i j : Int) : Int × Int := if k = 1 then (s, q) else if k = 2 ∨ k = 3 then (i, j) else (0, 0)
set_option maxHeartbeats 3200000 in
theorem rfew8_any (s q : Int) (rs : List Rd1) (ws : List Wr1) (A1 : Option Addr) (c1 : Nat) (A2 : Option Addr) (c2 : Nat) (w : World) (B : Nat) (hB : B ≤ w.heap.size) (ok : TxOk w B rs ws A1 c1 A2 c2) :
    Calls Tryd.prog 70 #[.agg #[.int .i64 s, .int .i64 q, .slice A1 rs.length c1, .slice A2 ws.length c2]] w fun e w' => (∃ r : Bool, e = .returned (.bool r)) ∧ Below w.heap.size w w' := by
  obtain ⟨w0, hw0⟩ : ∃ w0, w0 = w.alloc (.cells #[.int .i64 s, .int .i64 q, .slice A1 rs.length c1, .slice A2 ws.length c2] 34) := ⟨_, rfl⟩
  have g0 : Below w.heap.size w w0 := by rw [hw0]; exact (Below.refl _ _).alloc (Nat.le_refl _) _
  have a2 : w0.cell? ⟨w.heap.size, 2, none⟩ = some (.slice A1 rs.length c1) := by rw [hw0]; simp
  have a3 : w0.cell? ⟨w.heap.size, 3, none⟩ = some (.slice A2 ws.length c2) := by rw [hw0]; simp
  obtain ⟨hr, hw, rc, wc, rm, wm, _, _⟩ := ok.below g0 hB
  unfold maxLen at rm wm
  obtain ⟨n1, hn1⟩ : ∃ n, n = rs.length := ⟨_, rfl⟩
  obtain ⟨n2, hn2⟩ : ∃ n, n = ws.length := ⟨_, rfl⟩
  have HN1 := Lib.hid hn1
  have HN2 := Lib.hid hn2
  rw [← hn1] at hw0 a2 rc ⊢
  rw [← hn2] at hw0 a3 wc ⊢
  clear hn1 hn2 ok
  go_enter Tryd.func70, Tryd.ntmps70
  go_upto_region 1 with fail
  rw [← hw0]
  clear hw0
  by_cases l1 : 12 < n1
  · have d1 : decide (12 < (n1 : Int)) = true := by simp; omega
    go_wp2_with fail
    go_ret
    exact ⟨⟨_, rfl⟩, g0⟩
  · have d1 : decide (12 < (n1 : Int)) = false := by simp; omega
    by_cases l2 : 12 < n2
    · have d2 : decide (12 < (n2 : Int)) = true := by simp; omega
      go_wp2_with fail
      go_ret
      exact ⟨⟨_, rfl⟩, g0⟩
    · have d2 : decide (12 < (n2 : Int)) = false := by simp; omega
      go_upto_region 4 with fail
      clear d1 d2
      go_loopw [3] (fun i wr => ∃ k : Nat, k ≤ n1 ∧ i = .int .i64 (k : Int) ∧ Hid (wr = w0)) (fun i _ => n1 - (intOf i).toNat)
      case atStart => exact ⟨0, Nat.zero_le _, rfl, rfl⟩
      case round =>
        obtain ⟨k, hk, rfl, HW⟩ := hrel
        rw [HW.out]
        clear HW
        by_cases hlt : k < n1
        · have hkl : k < rs.length := by rw [← HN1.out]; exact hlt
          obtain ⟨b, off, rfl, hb, x0, x1⟩ := hr.rd k hkl
          generalize (⟨rs[k].1.toArray⟩ : ByteArray) = xa at x0
          by_cases lx : 1000 < xa.size
          · have dx : decide (1000 < (xa.size : Int)) = true := by simp; omega
            go_wp2_with fail
            go_ret
            exact ⟨⟨_, rfl⟩, g0⟩
          · have dx : decide (1000 < (xa.size : Int)) = false := by simp; omega
            go_wp2_with fail
            go_roundw
            case rel => exact ⟨k + 1, by omega, by go_num, Lib.hid trivial⟩
            case measure => first | (simp [intOf]; done) | (simp [intOf]; omega)
        · obtain rfl : k = n1 := by omega
          go_upto_region 9 with fail
          go_loopw [4] (fun i wr => ∃ k : Nat, k ≤ n2 ∧ i = .int .i64 (k : Int) ∧ Hid (wr = w0)) (fun i _ => n2 - (intOf i).toNat)
          case atStart => exact ⟨0, Nat.zero_le _, rfl, rfl⟩
          case round =>
            obtain ⟨k, hk, rfl, HW⟩ := hrel
            rw [HW.out]
            clear HW
            by_cases hlt : k < n2
            · have hkl : k < ws.length := by rw [← HN2.out]; exact hlt
              obtain ⟨b, off, rfl, hb, x0, x1, x2, x3⟩ := hw.wr k hkl
              generalize (⟨ws[k].1.toArray⟩ : ByteArray) = xa at x0
              generalize (⟨ws[k].2.2.2.toArray⟩ : ByteArray) = xb at x3
              by_cases lx : 1000 < xa.size
              · have dx : decide (1000 < (xa.size : Int)) = true := by simp; omega
                go_wp2_with fail
                go_ret
                exact ⟨⟨_, rfl⟩, g0⟩
              · have dx : decide (1000 < (xa.size : Int)) = false := by simp; omega
                by_cases ly : 1000 < xb.size
                · have dy : decide (1000 < (xb.size : Int)) = true := by simp; omega
                  go_wp2_with fail
                  go_ret
                  exact ⟨⟨_, rfl⟩, g0⟩
                · have dy : decide (1000 < (xb.size : Int)) = false := by simp; omega
                  go_wp2_with fail
                  go_roundw
                  case rel => exact ⟨k + 1, by omega, by go_num, Lib.hid trivial⟩
                  case measure => first | (simp [intOf]; done) | (simp [intOf]; omega)
            · obtain rfl : k = n2 := by omega
              go_wp2_with fail
              go_ret
              exact ⟨⟨_, rfl⟩, g0⟩
set_option maxHeartbeats 1600000 in
theorem rfew_any (k : Int) (s q : Int) (rs : List Rd1) (ws : List Wr1) (A1 : Option Addr) (c1 : Nat) (A2 : Option Addr) (c2 : Nat) (i j g : Int) (st : Nat) (y : Bool) (w : World) (B : Nat) (hB : B ≤ w.heap.size) (ok : TxOk w B rs ws A1 c1 A2 c2) :
    Calls Tryd.prog 43 #[.agg #[.int .i64 k, .int .i64 s, .int .i64 q, .slice A1 rs.length c1, .slice A2 ws.length c2, .int .i64 i, .int .i64 j, .int .i64 g, .int .u64 (st : Int), .bool y]] w fun e w' => (∃ r : Bool, e = .returned (.bool r)) ∧ Below w.heap.size w w' := by
  have g0 : Below w.heap.size w (w.alloc (.cells #[.int .i64 k, .int .i64 s, .int .i64 q, .slice A1 rs.length c1, .slice A2 ws.length c2, .int .i64 i, .int .i64 j, .int .i64 g, .int .u64 (st : Int), .bool y] 41)) := (Below.refl _ _).alloc (Nat.le_refl _) _
  have H := Lib.hid (rfew8_any s q rs ws A1 c1 A2 c2 _ B (Nat.le_trans hB g0.size) (ok.below g0 hB))
  clear ok
  generalize rs.length = n1 at *
  generalize ws.length = n2 at *
  go_enter Tryd.func43, Tryd.ntmps43
  go_wp2_with fail
  refine H.out.mono ?_
  rintro e w1 ⟨⟨r, rfl⟩, b1⟩
  go_wp2_with fail
  go_ret
  exact ⟨⟨_, rfl⟩, g0.trans (b1.mono g0.size)⟩
set_option maxHeartbeats 1600000 in
theorem clabel_1 (s q : Int) (rs : List Rd1) (ws : List Wr1) (A1 : Option Addr) (c1 : Nat) (A2 : Option Addr) (c2 : Nat) (i j g : Int) (st : Nat) (y : Bool) (w : World) :
    Calls Tryd.prog 33 #[.agg #[.int .i64 1, .int .i64 s, .int .i64 q, .slice A1 rs.length c1, .slice A2 ws.length c2, .int .i64 i, .int .i64 j, .int .i64 g, .int .u64 (st : Int), .bool y]] w fun e w' => e = .returned (.agg #[.int .i64 s, .int .i64 q]) ∧ Below w.heap.size w w' := by
  generalize rs.length = n1
  generalize ws.length = n2
  have g0 : Below w.heap.size w (((w.alloc (.cells #[.int .i64 1, .int .i64 s, .int .i64 q, .slice A1 n1 c1, .slice A2 n2 c2, .int .i64 i, .int .i64 j, .int .i64 g, .int .u64 (st : Int), .bool y] 37)).alloc (.cells #[.int .i64 0, .int .i64 0] 30))) := ((Below.refl _ _).alloc (Nat.le_refl _) _).alloc (by simp) _
  have Z := setAt (setAt (heap_alloc_new (w.alloc (.cells #[.int .i64 1, .int .i64 s, .int .i64 q, .slice A1 n1 c1, .slice A2 n2 c2, .int .i64 i, .int .i64 j, .int .i64 g, .int .u64 (st : Int), .bool y] 37)) (.cells #[.int .i64 0, .int .i64 0] 30)) 0 (.int .i64 s)) 1 (.int .i64 q)
  have r0 := cellAt Z 0
  have r1 := cellAt Z 1
  simp at r0 r1
  go_enter Tryd.func33, Tryd.ntmps33
  go_wp2_with fail
  refine bodyPost_ret (v := .agg #[.int .i64 s, .int .i64 q]) (by simp [results, Tryd.results33, go_sem, r0, r1]) rfl ⟨rfl, ?_⟩
  exact ((Below.refl _ _).alloc (Nat.le_refl _) _).alloc (by simp) _
set_option maxHeartbeats 1600000 in
theorem clabel_2 (s q : Int) (rs : List Rd1) (ws : List Wr1) (A1 : Option Addr) (c1 : Nat) (A2 : Option Addr) (c2 : Nat) (i j g : Int) (st : Nat) (y : Bool) (w : World) :
    Calls Tryd.prog 33 #[.agg #[.int .i64 2, .int .i64 s, .int .i64 q, .slice A1 rs.length c1, .slice A2 ws.length c2, .int .i64 i, .int .i64 j, .int .i64 g, .int .u64 (st : Int), .bool y]] w fun e w' => e = .returned (.agg #[.int .i64 i, .int .i64 j]) ∧ Below w.heap.size w w' := by
  generalize rs.length = n1
  generalize ws.length = n2
  have g0 : Below w.heap.size w (((w.alloc (.cells #[.int .i64 2, .int .i64 s, .int .i64 q, .slice A1 n1 c1, .slice A2 n2 c2, .int .i64 i, .int .i64 j, .int .i64 g, .int .u64 (st : Int), .bool y] 37)).alloc (.cells #[.int .i64 0, .int .i64 0] 30))) := ((Below.refl _ _).alloc (Nat.le_refl _) _).alloc (by simp) _
  have Z := setAt (setAt (heap_alloc_new (w.alloc (.cells #[.int .i64 2, .int .i64 s, .int .i64 q, .slice A1 n1 c1, .slice A2 n2 c2, .int .i64 i, .int .i64 j, .int .i64 g, .int .u64 (st : Int), .bool y] 37)) (.cells #[.int .i64 0, .int .i64 0] 30)) 0 (.int .i64 i)) 1 (.int .i64 j)
  have r0 := cellAt Z 0
  have r1 := cellAt Z 1
  simp at r0 r1
  go_enter Tryd.func33, Tryd.ntmps33
  go_wp2_with fail
  refine bodyPost_ret (v := .agg #[.int .i64 i, .int .i64 j]) (by simp [results, Tryd.results33, go_sem, r0, r1]) rfl ⟨rfl, ?_⟩
  exact ((Below.refl _ _).alloc (Nat.le_refl _) _).alloc (by simp) _
set_option maxHeartbeats 1600000 in
theorem clabel_3 (s q : Int) (rs : List Rd1) (ws : List Wr1) (A1 : Option Addr) (c1 : Nat) (A2 : Option Addr) (c2 : Nat) (i j g : Int) (st : Nat) (y : Bool) (w : World) :
    Calls Tryd.prog 33 #[.agg #[.int .i64 3, .int .i64 s, .int .i64 q, .slice A1 rs.length c1, .slice A2 ws.length c2, .int .i64 i, .int .i64 j, .int .i64 g, .int .u64 (st : Int), .bool y]] w fun e w' => e = .returned (.agg #[.int .i64 i, .int .i64 j]) ∧ Below w.heap.size w w' := by
  generalize rs.length = n1
  generalize ws.length = n2
  have g0 : Below w.heap.size w (((w.alloc (.cells #[.int .i64 3, .int .i64 s, .int .i64 q, .slice A1 n1 c1, .slice A2 n2 c2, .int .i64 i, .int .i64 j, .int .i64 g, .int .u64 (st : Int), .bool y] 37)).alloc (.cells #[.int .i64 0, .int .i64 0] 30))) := ((Below.refl _ _).alloc (Nat.le_refl _) _).alloc (by simp) _
  have Z := setAt (setAt (heap_alloc_new (w.alloc (.cells #[.int .i64 3, .int .i64 s, .int .i64 q, .slice A1 n1 c1, .slice A2 n2 c2, .int .i64 i, .int .i64 j, .int .i64 g, .int .u64 (st : Int), .bool y] 37)) (.cells #[.int .i64 0, .int .i64 0] 30)) 0 (.int .i64 i)) 1 (.int .i64 j)
  have r0 := cellAt Z 0
  have r1 := cellAt Z 1
  simp at r0 r1
  go_enter Tryd.func33, Tryd.ntmps33
  go_wp2_with fail
  refine bodyPost_ret (v := .agg #[.int .i64 i, .int .i64 j]) (by simp [results, Tryd.results33, go_sem, r0, r1]) rfl ⟨rfl, ?_⟩
  exact ((Below.refl _ _).alloc (Nat.le_refl _) _).alloc (by simp) _
set_option maxHeartbeats 1600000 in
theorem clabel_0 (k : Int) (k1 : ¬ k = 1) (k2 : ¬ k = 2) (k3 : ¬ k = 3) (s q : Int) (rs : List Rd1) (ws : List Wr1) (A1 : Option Addr) (c1 : Nat) (A2 : Option Addr) (c2 : Nat) (i j g : Int) (st : Nat) (y : Bool) (w : World) :
    Calls Tryd.prog 33 #[.agg #[.int .i64 k, .int .i64 s, .int .i64 q, .slice A1 rs.length c1, .slice A2 ws.length c2, .int .i64 i, .int .i64 j, .int .i64 g, .int .u64 (st : Int), .bool y]] w fun e w' => e = .returned (.agg #[.int .i64 0, .int .i64 0]) ∧ Below w.heap.size w w' := by
  generalize rs.length = n1
  generalize ws.length = n2
  have g0 : Below w.heap.size w (((w.alloc (.cells #[.int .i64 k, .int .i64 s, .int .i64 q, .slice A1 n1 c1, .slice A2 n2 c2, .int .i64 i, .int .i64 j, .int .i64 g, .int .u64 (st : Int), .bool y] 37)).alloc (.cells #[.int .i64 0, .int .i64 0] 30))) := ((Below.refl _ _).alloc (Nat.le_refl _) _).alloc (by simp) _
  have Z := setAt (setAt (heap_alloc_new (w.alloc (.cells #[.int .i64 k, .int .i64 s, .int .i64 q, .slice A1 n1 c1, .slice A2 n2 c2, .int .i64 i, .int .i64 j, .int .i64 g, .int .u64 (st : Int), .bool y] 37)) (.cells #[.int .i64 0, .int .i64 0] 30)) 0 (.int .i64 0)) 1 (.int .i64 0)
  have r0 := cellAt Z 0
  have r1 := cellAt Z 1
  simp at r0 r1
  have d1 : (k == 1) = false := by simp [k1]
  have d2 : (k == 2) = false := by simp [k2]
  have d3 : (k == 3) = false := by simp [k3]
  go_enter Tryd.func33, Tryd.ntmps33
  go_wp2_with fail
  refine bodyPost_ret (v := .agg #[.int .i64 0, .int .i64 0]) (by simp [results, Tryd.results33, go_sem, r0, r1]) rfl ⟨rfl, ?_⟩
  exact ((Below.refl _ _).alloc (Nat.le_refl _) _).alloc (by simp) _
theorem clabel_any (k : Int) (s q : Int) (rs : List Rd1) (ws : List Wr1) (A1 : Option Addr) (c1 : Nat) (A2 : Option Addr) (c2 : Nat) (i j g : Int) (st : Nat) (y : Bool) (w : World) :
    Calls Tryd.prog 33 #[.agg #[.int .i64 k, .int .i64 s, .int .i64 q, .slice A1 rs.length c1, .slice A2 ws.length c2, .int .i64 i, .int .i64 j, .int .i64 g, .int .u64 (st : Int), .bool y]] w fun e w' => e = .returned (.agg #[.int .i64 (T.label k s q i j).1, .int .i64 (T.label k s q i j).2]) ∧ Below w.heap.size w w' := by
  unfold T.label
  by_cases k1 : k = 1
  · subst k1; rw [if_pos rfl]; exact clabel_1 s q rs ws A1 c1 A2 c2 i j g st y w
  · rw [if_neg k1]
    by_cases k2 : k = 2
    · subst k2; rw [if_pos (Or.inl rfl)]; exact clabel_2 s q rs ws A1 c1 A2 c2 i j g st y w
    · by_cases k3 : k = 3
      · subst k3; rw [if_pos (Or.inr rfl)]; exact clabel_3 s q rs ws A1 c1 A2 c2 i j g st y w
      · rw [if_neg (by omega)]; exact clabel_0 k k1 k2 k3 s q rs ws A1 c1 A2 c2 i j g st y w
set_option maxHeartbeats 1600000 in
theorem rclabel_1 (s q : Int) (rs : List Rd1) (ws : List Wr1) (A1 : Option Addr) (c1 : Nat) (A2 : Option Addr) (c2 : Nat) (i j g : Int) (st : Nat) (y : Bool) (w : World) :
    Calls Tryd.prog 34 #[.agg #[.int .i64 1, .int .i64 s, .int .i64 q, .slice A1 rs.length c1, .slice A2 ws.length c2, .int .i64 i, .int .i64 j, .int .i64 g, .int .u64 (st : Int), .bool y]] w fun e w' => e = .returned (.agg #[.int .i64 s, .int .i64 q]) ∧ Below w.heap.size w w' := by
  generalize rs.length = n1
  generalize ws.length = n2
  have g0 : Below w.heap.size w (((w.alloc (.cells #[.int .i64 1, .int .i64 s, .int .i64 q, .slice A1 n1 c1, .slice A2 n2 c2, .int .i64 i, .int .i64 j, .int .i64 g, .int .u64 (st : Int), .bool y] 41)).alloc (.cells #[.int .i64 0, .int .i64 0] 30))) := ((Below.refl _ _).alloc (Nat.le_refl _) _).alloc (by simp) _
  have Z := setAt (setAt (heap_alloc_new (w.alloc (.cells #[.int .i64 1, .int .i64 s, .int .i64 q, .slice A1 n1 c1, .slice A2 n2 c2, .int .i64 i, .int .i64 j, .int .i64 g, .int .u64 (st : Int), .bool y] 41)) (.cells #[.int .i64 0, .int .i64 0] 30)) 0 (.int .i64 s)) 1 (.int .i64 q)
  have r0 := cellAt Z 0
  have r1 := cellAt Z 1
  simp at r0 r1
  go_enter Tryd.func34, Tryd.ntmps34
  go_wp2_with fail
  refine bodyPost_ret (v := .agg #[.int .i64 s, .int .i64 q]) (by simp [results, Tryd.results34, go_sem, r0, r1]) rfl ⟨rfl, ?_⟩
  exact ((Below.refl _ _).alloc (Nat.le_refl _) _).alloc (by simp) _
set_option maxHeartbeats 1600000 in
theorem rclabel_2 (s q : Int) (rs : List Rd1) (ws : List Wr1) (A1 : Option Addr) (c1 : Nat) (A2 : Option Addr) (c2 : Nat) (i j g : Int) (st : Nat) (y : Bool) (w : World) :
    Calls Tryd.prog 34 #[.agg #[.int .i64 2, .int .i64 s, .int .i64 q, .slice A1 rs.length c1, .slice A2 ws.length c2, .int .i64 i, .int .i64 j, .int .i64 g, .int .u64 (st : Int), .bool y]] w fun e w' => e = .returned (.agg #[.int .i64 i, .int .i64 j]) ∧ Below w.heap.size w w' := by
  generalize rs.length = n1
  generalize ws.length = n2
  have g0 : Below w.heap.size w (((w.alloc (.cells #[.int .i64 2, .int .i64 s, .int .i64 q, .slice A1 n1 c1, .slice A2 n2 c2, .int .i64 i, .int .i64 j, .int .i64 g, .int .u64 (st : Int), .bool y] 41)).alloc (.cells #[.int .i64 0, .int .i64 0] 30))) := ((Below.refl _ _).alloc (Nat.le_refl _) _).alloc (by simp) _
  have Z := setAt (setAt (heap_alloc_new (w.alloc (.cells #[.int .i64 2, .int .i64 s, .int .i64 q, .slice A1 n1 c1, .slice A2 n2 c2, .int .i64 i, .int .i64 j, .int .i64 g, .int .u64 (st : Int), .bool y] 41)) (.cells #[.int .i64 0, .int .i64 0] 30)) 0 (.int .i64 i)) 1 (.int .i64 j)
  have r0 := cellAt Z 0
  have r1 := cellAt Z 1
  simp at r0 r1
  go_enter Tryd.func34, Tryd.ntmps34
  go_wp2_with fail
  refine bodyPost_ret (v := .agg #[.int .i64 i, .int .i64 j]) (by simp [results, Tryd.results34, go_sem, r0, r1]) rfl ⟨rfl, ?_⟩
  exact ((Below.refl _ _).alloc (Nat.le_refl _) _).alloc (by simp) _
set_option maxHeartbeats 1600000 in
theorem rclabel_3 (s q : Int) (rs : List Rd1) (ws : List Wr1) (A1 : Option Addr) (c1 : Nat) (A2 : Option Addr) (c2 : Nat) (i j g : Int) (st : Nat) (y : Bool) (w : World) :
    Calls Tryd.prog 34 #[.agg #[.int .i64 3, .int .i64 s, .int .i64 q, .slice A1 rs.length c1, .slice A2 ws.length c2, .int .i64 i, .int .i64 j, .int .i64 g, .int .u64 (st : Int), .bool y]] w fun e w' => e = .returned (.agg #[.int .i64 i, .int .i64 j]) ∧ Below w.heap.size w w' := by
  generalize rs.length = n1
  generalize ws.length = n2
  have g0 : Below w.heap.size w (((w.alloc (.cells #[.int .i64 3, .int .i64 s, .int .i64 q, .slice A1 n1 c1, .slice A2 n2 c2, .int .i64 i, .int .i64 j, .int .i64 g, .int .u64 (st : Int), .bool y] 41)).alloc (.cells #[.int .i64 0, .int .i64 0] 30))) := ((Below.refl _ _).alloc (Nat.le_refl _) _).alloc (by simp) _
  have Z := setAt (setAt (heap_alloc_new (w.alloc (.cells #[.int .i64 3, .int .i64 s, .int .i64 q, .slice A1 n1 c1, .slice A2 n2 c2, .int .i64 i, .int .i64 j, .int .i64 g, .int .u64 (st : Int), .bool y] 41)) (.cells #[.int .i64 0, .int .i64 0] 30)) 0 (.int .i64 i)) 1 (.int .i64 j)
  have r0 := cellAt Z 0
  have r1 := cellAt Z 1
  simp at r0 r1
  go_enter Tryd.func34, Tryd.ntmps34
  go_wp2_with fail
  refine bodyPost_ret (v := .agg #[.int .i64 i, .int .i64 j]) (by simp [results, Tryd.results34, go_sem, r0, r1]) rfl ⟨rfl, ?_⟩
  exact ((Below.refl _ _).alloc (Nat.le_refl _) _).alloc (by simp) _
set_option maxHeartbeats 1600000 in
theorem rclabel_0 (k : Int) (k1 : ¬ k = 1) (k2 : ¬ k = 2) (k3 : ¬ k = 3) (s q : Int) (rs : List Rd1) (ws : List Wr1) (A1 : Option Addr) (c1 : Nat) (A2 : Option Addr) (c2 : Nat) (i j g : Int) (st : Nat) (y : Bool) (w : World) :
    Calls Tryd.prog 34 #[.agg #[.int .i64 k, .int .i64 s, .int .i64 q, .slice A1 rs.length c1, .slice A2 ws.length c2, .int .i64 i, .int .i64 j, .int .i64 g, .int .u64 (st : Int), .bool y]] w fun e w' => e = .returned (.agg #[.int .i64 0, .int .i64 0]) ∧ Below w.heap.size w w' := by
  generalize rs.length = n1
  generalize ws.length = n2
  have g0 : Below w.heap.size w (((w.alloc (.cells #[.int .i64 k, .int .i64 s, .int .i64 q, .slice A1 n1 c1, .slice A2 n2 c2, .int .i64 i, .int .i64 j, .int .i64 g, .int .u64 (st : Int), .bool y] 41)).alloc (.cells #[.int .i64 0, .int .i64 0] 30))) := ((Below.refl _ _).alloc (Nat.le_refl _) _).alloc (by simp) _
  have Z := setAt (setAt (heap_alloc_new (w.alloc (.cells #[.int .i64 k, .int .i64 s, .int .i64 q, .slice A1 n1 c1, .slice A2 n2 c2, .int .i64 i, .int .i64 j, .int .i64 g, .int .u64 (st : Int), .bool y] 41)) (.cells #[.int .i64 0, .int .i64 0] 30)) 0 (.int .i64 0)) 1 (.int .i64 0)
  have r0 := cellAt Z 0
  have r1 := cellAt Z 1
  simp at r0 r1
  have d1 : (k == 1) = false := by simp [k1]
  have d2 : (k == 2) = false := by simp [k2]
  have d3 : (k == 3) = false := by simp [k3]
  go_enter Tryd.func34, Tryd.ntmps34
  go_wp2_with fail
  refine bodyPost_ret (v := .agg #[.int .i64 0, .int .i64 0]) (by simp [results, Tryd.results34, go_sem, r0, r1]) rfl ⟨rfl, ?_⟩
  exact ((Below.refl _ _).alloc (Nat.le_refl _) _).alloc (by simp) _
theorem rclabel_any (k : Int) (s q : Int) (rs : List Rd1) (ws : List Wr1) (A1 : Option Addr) (c1 : Nat) (A2 : Option Addr) (c2 : Nat) (i j g : Int) (st : Nat) (y : Bool) (w : World) :
    Calls Tryd.prog 34 #[.agg #[.int .i64 k, .int .i64 s, .int .i64 q, .slice A1 rs.length c1, .slice A2 ws.length c2, .int .i64 i, .int .i64 j, .int .i64 g, .int .u64 (st : Int), .bool y]] w fun e w' => e = .returned (.agg #[.int .i64 (T.label k s q i j).1, .int .i64 (T.label k s q i j).2]) ∧ Below w.heap.size w w' := by
  unfold T.label
  by_cases k1 : k = 1
  · subst k1; rw [if_pos rfl]; exact rclabel_1 s q rs ws A1 c1 A2 c2 i j g st y w
  · rw [if_neg k1]
    by_cases k2 : k = 2
    · subst k2; rw [if_pos (Or.inl rfl)]; exact rclabel_2 s q rs ws A1 c1 A2 c2 i j g st y w
    · by_cases k3 : k = 3
      · subst k3; rw [if_pos (Or.inr rfl)]; exact rclabel_3 s q rs ws A1 c1 A2 c2 i j g st y w
      · rw [if_neg (by omega)]; exact rclabel_0 k k1 k2 k3 s q rs ws A1 c1 A2 c2 i j g st y w
end Go.Proofs.YtkfnepmiigkdfaaDoor

namespace Go.Proofs.YtkfnepmiigkdfaaDoor
set_option maxRecDepth 20001
open Go.RowKit T
set_option linter.unusedSimpArgs false
set_option linter.unusedVariables false

theorem cformed_zero (w : World) (hT : Tabs w) : Calls Tryd.prog 28 #[.agg #[.int .i64 0, .int .i64 0, .int .i64 0, .slice none 0 0, .slice none 0 0, .int .i64 0, .int .i64 0, .int .i64 0, .int .u64 0, .bool false]] w fun e w' => e = .returned (.bool true) ∧ Below w.heap.size w w' := by
  have := cformed_any 0 0 0 [] [] none 0 none 0 0 0 0 0 false w 0 (Nat.zero_le _) TxOk.zero hT
  exact this
set_option maxHeartbeats 1600000 in
theorem cput_zero (w : World) (hT : Tabs w) : Calls Tryd.prog 29 #[.slice none 0 0, .agg #[.int .i64 0, .int .i64 0, .int .i64 0, .slice none 0 0, .slice none 0 0, .int .i64 0, .int .i64 0, .int .i64 0, .int .u64 0, .bool false]] w (MadeB w (C.be 0 (C.clamp8 1))) := by
  have g0 : Below w.heap.size w (w.alloc (.cells #[.int .i64 0, .int .i64 0, .int .i64 0, .slice none 0 0, .slice none 0 0, .int .i64 0, .int .i64 0, .int .i64 0, .int .u64 0, .bool false] 37)) := (Below.refl _ _).alloc (Nat.le_refl _) _
  have HF := Lib.hid (cformed_zero _ (hT.below g0))
  have a0 : (w.alloc (.cells #[.int .i64 0, .int .i64 0, .int .i64 0, .slice none 0 0, .slice none 0 0, .int .i64 0, .int .i64 0, .int .i64 0, .int .u64 0, .bool false] 37)).cell? ⟨w.heap.size, 0, none⟩ = some (.int .i64 0) := by simp
  go_enter Tryd.func29, Tryd.ntmps29
  go_wp2_with fail
  refine HF.out.mono ?_
  rintro e w1 ⟨rfl, b1⟩
  have a1 := cellB b1 a0
  have e1 := g0.trans (b1.mono g0.size)
  go_wp2_with fail
  refine (put_any none 0 [] 0 1 w1 w1.heap.size (by simp) (fun _ => ⟨rfl, rfl⟩) Rd.nil (Nat.le_refl _) (by omega)).mono ?_
  rintro e w2 ⟨v, rfl, o2, b2⟩
  have a2 := cellB b2 a1
  go_wp2_with fail
  go_ret
  exact ⟨_, rfl, ownMore o2 e1.size, e1.trans (b2.mono e1.size)⟩
set_option maxHeartbeats 1600000 in
theorem c9_awake (w : World) (hT : Tabs w) : Calls Tryd.prog 26 #[] w fun e w' => e = .returned (.bool true) ∧ Below w.heap.size w w' := by
  have HF := Lib.hid (cformed_zero _ hT)
  have HP := Lib.hid (fun z (hz : Below w.heap.size w z) => cput_zero z (hT.below hz))
  go_enter Tryd.func26, Tryd.ntmps26
  go_wp2_with fail
  refine HF.out.mono ?_
  rintro e w1 ⟨rfl, b1⟩
  go_wp2_with fail
  refine (HP.out w1 b1).mono ?_
  rintro e w2 ⟨v, rfl, o2, b2⟩
  obtain ⟨A, c, rfl, _, _, _⟩ := ownShape o2
  have hl : (C.be 0 (C.clamp8 1)).length = 1 := by decide
  rw [hl]
  clear o2
  go_wp2_with fail
  go_ret
  exact ⟨rfl, b1.trans (b2.mono b1.size)⟩
set_option maxHeartbeats 1600000 in
theorem c9_few (k s q : Int) (rs : List Rd1) (ws : List Wr1) (A1 : Option Addr) (c1 : Nat) (A2 : Option Addr) (c2 : Nat) (i j g : Int) (st : Nat) (y : Bool) (w : World) (B : Nat) (hB : B ≤ w.heap.size) (ok : TxOk w B rs ws A1 c1 A2 c2) :
    Calls Tryd.prog 27 #[.agg #[.int .i64 k, .int .i64 s, .int .i64 q, .slice A1 rs.length c1, .slice A2 ws.length c2, .int .i64 i, .int .i64 j, .int .i64 g, .int .u64 (st : Int), .bool y]] w fun e w' => (∃ r : Bool, e = .returned (.bool r)) ∧ Below w.heap.size w w' := by
  have g0 : Below w.heap.size w (w.alloc (.cells #[.int .i64 k, .int .i64 s, .int .i64 q, .slice A1 rs.length c1, .slice A2 ws.length c2, .int .i64 i, .int .i64 j, .int .i64 g, .int .u64 (st : Int), .bool y] 37)) := (Below.refl _ _).alloc (Nat.le_refl _) _
  have HF := Lib.hid (rfew_any k s q rs ws A1 c1 A2 c2 i j g st y _ B (Nat.le_trans hB g0.size) (ok.below g0 hB))
  clear ok
  generalize rs.length = n1 at *
  generalize ws.length = n2 at *
  go_enter Tryd.func27, Tryd.ntmps27
  go_wp2_with fail
  refine HF.out.mono ?_
  rintro e w1 ⟨⟨r, rfl⟩, b1⟩
  go_wp2_with fail
  go_ret
  exact ⟨⟨_, rfl⟩, g0.trans (b1.mono g0.size)⟩
end Go.Proofs.YtkfnepmiigkdfaaDoor

namespace Go.Proofs.YtkfnepmiigkdfaaDoor
set_option maxRecDepth 20001
open Go.RowKit Go.ChangeShapes Go.WideShapes Go.ChangeAt T
set_option linter.unusedSimpArgs false
set_option linter.unusedVariables false
section
variable {W : World} {v : Value}
theorem Arg.cmd (h : Arg W 37 v) :
    ∃ (k s q : Int) (rs : List Rd1) (ws : List Wr1) (A1 : Option Addr) (c1 : Nat) (A2 : Option Addr) (c2 : Nat) (i j g : Int) (st : Nat) (y : Bool),
    v = .agg #[.int .i64 k, .int .i64 s, .int .i64 q, .slice A1 rs.length c1, .slice A2 ws.length c2, .int .i64 i, .int .i64 j, .int .i64 g, .int .u64 (st : Int), .bool y] ∧ TxOk W W.heap.size rs ws A1 c1 A2 c2 ∧ st < 18446744073709551616 ∧
      (-9223372036854775808 ≤ k ∧ k ≤ 9223372036854775807) ∧ (-9223372036854775808 ≤ g ∧ g ≤ 9223372036854775807) := by
  obtain ⟨cs, rfl, hc⟩ := h.struct Tryd.underlying37
  obtain ⟨k, s, q, rs, ws, A1, c1, A2, c2, i, j, g, st, y, e, r⟩ := hc.cmd Tryd.underlying37 (by kernel_rfl) (by rfl) (by rfl) (by rfl) (by rfl) (by rfl) (by rfl)
  refine ⟨k, s, q, rs, ws, A1, c1, A2, c2, i, j, g, st, y, ?_, r⟩
  congr 1
  apply Array.ext'
  exact e
end
end Go.Proofs.YtkfnepmiigkdfaaDoor

namespace Go.Proofs.YtkfnepmiigkdfaaDoor
set_option maxRecDepth 20001
open Go.RowKit Go.ChangeShapes Go.WideShapes Go.ChangeAt T
set_option linter.unusedSimpArgs false
set_option linter.unusedVariables false
section
variable {W : World} {cs : List Value} {v : Value}
theorem Cel.cm (h : Cel W 37 cs) : ∃ x : Cm, cs = x.cells ∧ CmOk W W.heap.size x := by
  obtain ⟨k, s, q, rs, ws, A1, c1, A2, c2, i, j, g, st, y, e, r, _⟩ := h.cmd Tryd.underlying37 (by kernel_rfl) (by rfl) (by rfl) (by rfl) (by rfl) (by rfl) (by rfl)
  exact ⟨⟨k, s, q, rs, ws, A1, c1, A2, c2, i, j, g, st, y⟩, e, r⟩
theorem Arg.cm (h : Arg W 37 v) : ∃ x : Cm, v = .agg x.cells.toArray ∧ CmOk W W.heap.size x := by
  obtain ⟨⟨cs⟩, rfl, hc⟩ := h.struct Tryd.underlying37
  obtain ⟨x, hx, r⟩ := Cel.cm hc
  exact ⟨x, by rw [show cs = x.cells from hx], r⟩
instance : Inhabited Cm := ⟨Cm.zero⟩
/-- commands -/
theorem Arg.cms (h : Arg W 76 v) : ∃ (A : Option Addr) (c : Nat) (ls : List Cm), v = .slice A ls.length c ∧ ls.length ≤ c ∧ c ≤ maxLen ∧ RowsAt W W.heap.size A 10 (ls.map Cm.cells) ∧ ∀ x ∈ ls, CmOk W W.heap.size x := by
  obtain ⟨A, n, c, rfl, hc⟩ := h.slice Tryd.underlying76
  obtain ⟨ls, r1, r2, r3, r4, r5, r6⟩ := hc.rows Cm.cells (fun x => CmOk W W.heap.size x) Tryd.underlying76 (sz := 10) (by kernel_rfl) (by omega) (fun cs hc => Cel.cm hc)
  subst r1
  exact ⟨A, c, ls, rfl, r2, r3, r5, r6⟩
end
end Go.Proofs.YtkfnepmiigkdfaaDoor

namespace Go.Proofs.YtkfnepmiigkdfaaDoor
set_option maxRecDepth 20001
open Go.RowKit
set_option linter.unusedSimpArgs false
set_option linter.unusedVariables false

set_option maxHeartbeats 800000 in
theorem end_any (B g : Nat) (s : C.St) (w : World) (h : RdrAt w B g s) :
    Calls Tryd.prog 38 #[.pointer (some ⟨g, 0, none⟩)] w fun e w' => e = .returned (.bool (C.end_ s)) ∧ w = w' := by
  obtain ⟨A, c, hb, _⟩ := id h
  have h0 := cellAt hb 0
  simp only [List.getElem?_toArray, List.getElem?_cons_zero, List.getElem?_cons_succ] at h0
  obtain ⟨l, f⟩ := s
  cases f
  all_goals
    clear hb
    go_enter Tryd.func38, Tryd.ntmps38
    go_wp2_with fail
    refine (ok_any B g _ w h).mono ?_
    rintro e w' ⟨rfl, rfl⟩
    go_wp2
    go_ret
    refine ⟨ret_bool ?_, rfl⟩
    unfold C.end_
    first | (cases l <;> simp; done) | (cases l <;> simp <;> omega)

end Go.Proofs.YtkfnepmiigkdfaaDoor

namespace Go.Proofs.YtkfnepmiigkdfaaDoor
set_option maxRecDepth 20001
open Go.RowKit T
set_option linter.unusedSimpArgs false
set_option linter.unusedVariables false

theorem Arg.u16 {W : World} {t : TypeId} {v : Value} (h : Arg W t v) (ht : Tryd.prog.underlying t = some (.int .u16)) : ∃ a : Nat, v = .int .u16 a ∧ a < 65536 := by
  obtain ⟨a, rfl, w⟩ := h.int ht
  have := bounds_u16 w
  exact ⟨a.toNat, by rw [Int.toNat_of_nonneg this.1], by omega⟩
theorem info_int9 : (Tryd.prog.info? 3).map (fun i => (i.zero, i.size, i.bytes)) = some (some (.int .i64 0), 1, 8) := by kernel_rfl
/-- commands one behind the other -/
def encs (l : List Cm) : List UInt8 := l.flatMap (cput [])
theorem cput_app (l : List UInt8) (x : Cm) : cput l x = l ++ cput [] x := by
  unfold cput
  cases x.formed with
  | false => simp
  | true =>
    simp only [cond_true]
    split
    · rw [tput_app, tput_app (C.put [] 1 1), put1, put1]; simp
    · split
      · rw [put8, put8, put1, put1, idput_app, idput_app (C.put [] 2 1), put1, put1]; simp
      · split
        · rw [put1, put1, idput_app, put1, put1, put1, idput_app (C.put [] 3 1), put1]; simp
        · rw [put1, put1]; simp
theorem cput_len9 (x : Cm) : (cput [] x).length ≤ 1700000 := by
  unfold cput
  cases x.formed with
  | false => simp
  | true =>
    simp only [cond_true]
    have e1 := put_len2 [] 1 1
    have e2 := put_len2 [] 2 1
    have e3 := put_len2 [] 3 1
    have e0 := put_len2 [] 0 1
    have h1 := tput_len (C.put [] 1 1) x.s x.q x.rs x.ws
    have h2 := idput_len (C.put [] 2 1) x.i x.j
    have h3 := idput_len (C.put [] 3 1) x.i x.j
    have h4 := put_len2 (idput (C.put [] 2 1) x.i x.j) x.g.toNat 1
    have h5 := put_len2 (idput (C.put [] 3 1) x.i x.j) x.g.toNat 1
    have h6 := put_len2 (C.put (idput (C.put [] 2 1) x.i x.j) x.g.toNat 1) x.st 8
    have h7 := put_len2 (C.put (idput (C.put [] 3 1) x.i x.j) x.g.toNat 1) (if x.y = true then 1 else 0) 1
    simp only [List.length_nil] at e0 e1 e2 e3
    split
    · omega
    · split
      · omega
      · split <;> omega
theorem SlB.apart {w w' : World} {B : Nat} {v : Value} {l : List UInt8} {r : Option Nat} (h : SlB w B v l) (hg : w.grownBy w' r) (hne : ∀ b, v.ownBlock = some b → some b ≠ r) : SlB w' B v l := by
  obtain ⟨A, c, rfl, h1, h2, h3, hr⟩ := h
  refine ⟨A, c, rfl, h1, h2, h3, fun j u hj => ?_⟩
  obtain ⟨b, off, hA, hb, hc⟩ := hr j u hj
  subst hA
  exact ⟨b, off, rfl, hb, (World.cell?_of_block (hg.block b (World.block_lt_of_cell? w _ hc) (hne b rfl))).trans hc⟩
theorem encs_snoc (l : List Cm) (x : Cm) : encs (l ++ [x]) = encs l ++ cput [] x := by simp [encs]
theorem encs_len (l : List Cm) : (encs l).length ≤ l.length * 1700000 := by
  induction l with
  | nil => simp [encs]
  | cons a l ih => have := cput_len9 a; simp only [encs, List.flatMap_cons, List.length_append, List.length_cons] at ih ⊢; omega
theorem encs_drop (l : List Cm) (k : Nat) (h : k < l.length) : encs (l.drop k) = cput [] l[k] ++ encs (l.drop (k + 1)) := by
  unfold encs
  rw [List.drop_eq_getElem_cons h, List.flatMap_cons]
/-- the ends -/
def endsOf (l : List Cm) (k : Nat) : List Value := (List.range k).map fun i => .int .i64 ((encs (l.take (i + 1))).length : Int)
theorem endsOf_snoc (l : List Cm) (k : Nat) : endsOf l (k + 1) = endsOf l k ++ [.int .i64 ((encs (l.take (k + 1))).length : Int)] := by simp [endsOf, List.range_succ]
theorem endsOf_len (l : List Cm) (k : Nat) : (endsOf l k).length = k := by simp [endsOf]
/-- what is left in front of command k of what was cut off -/
def leftAt (l : List Cm) (at_ k : Nat) : List UInt8 := (encs (l.drop k)).take (at_ - (encs (l.take k)).length)
theorem left_step (l : List Cm) (at_ k : Nat) (hk : k < l.length) (h : (encs (l.take (k + 1))).length ≤ at_) : leftAt l at_ k = cput [] l[k] ++ leftAt l at_ (k + 1) := by
  have e : encs (l.take (k + 1)) = encs (l.take k) ++ cput [] l[k] := by rw [List.take_succ_eq_append_getElem hk, encs_snoc]
  rw [e, List.length_append] at h
  unfold leftAt
  rw [encs_drop l k hk, e, List.length_append, List.take_append, List.take_of_length_le (by omega)]
  congr 2
  omega
theorem left_cut (l : List Cm) (at_ k : Nat) (hk : k < l.length) (h0 : (encs (l.take k)).length ≤ at_) (h : at_ < (encs (l.take (k + 1))).length) : ∃ r, cput [] l[k] = leftAt l at_ k ++ r ∧ r ≠ [] := by
  have e : encs (l.take (k + 1)) = encs (l.take k) ++ cput [] l[k] := by rw [List.take_succ_eq_append_getElem hk, encs_snoc]
  rw [e, List.length_append] at h
  refine ⟨(cput [] l[k]).drop (at_ - (encs (l.take k)).length), ?_, ?_⟩
  · unfold leftAt
    rw [encs_drop l k hk, List.take_append_of_le_length (by omega)]
    exact (List.take_append_drop _ _).symm
  · intro hd
    have := congrArg List.length hd
    rw [List.length_drop] at this
    simp at this
    omega
theorem left_zero (l : List Cm) (at_ : Nat) : leftAt l at_ 0 = (encs l).take at_ := by simp [leftAt, encs]
set_option maxHeartbeats 12800000 in
theorem back_mid (A : Option Addr) (c : Nat) (l : List Cm) (cut : Nat) (hcut : cut < 65536) (w : World) (hc : l.length ≤ c) (hm : c ≤ maxLen) (hR : RowsAt w w.heap.size A 10 (l.map Cm.cells)) (hL : ∀ x ∈ l, CmOk w w.heap.size x) (hT : Tabs w) :
    Calls Tryd.prog 9 #[.slice A l.length c, .int .u16 (cut : Int)] w fun e w' => e = .returned (.bool true) ∧ Below w.heap.size w w' := by
  obtain ⟨i1, hi1, hz10, hz11, hz12⟩ := info_parts info_int9
  obtain ⟨n, hn⟩ : ∃ n, n = l.length := ⟨_, rfl⟩
  have HN := Lib.hid hn
  have HT := Lib.hid hT
  have HR := Lib.hid hR
  have HL := Lib.hid hL
  have HAW := Lib.hid (fun z (hz : Below w.heap.size w z) => c9_awake z (hT.below hz))
  rw [← hn] at hc ⊢
  clear hn hT hR hL
  unfold maxLen at hm
  have ee : Below w.heap.size w w := Below.refl _ _
  go_enter Tryd.func9, Tryd.ntmps9
  by_cases hl : 20 < n
  · go_wp2_with fail
    refine (HAW.out w ee).mono ?_
    rintro e z1 ⟨rfl, t⟩
    have ee := ee.trans (t.mono ee.size)
    clear t
    go_wp2_with fail
    refine (HAW.out z1 ee).mono ?_
    rintro e z2 ⟨rfl, t⟩
    have ee := ee.trans (t.mono ee.size)
    clear t
    go_wp2_with fail
    go_ret
    exact ⟨rfl, ee⟩
  · go_wp2_with fail
    refine (HAW.out w ee).mono ?_
    rintro e z1 ⟨rfl, t⟩
    have ee := ee.trans (t.mono ee.size)
    clear t
    have hle : ¬ 20 < n := hl
    clear hl
    have hl : decide (20 < (n : Int)) = false := by simp; omega
    go_wp2_with fail
    go_loopw [5, 6, 7] (fun bv u i wr => ∃ (k : Nat) (v : Value), k ≤ n ∧ i = .int .i64 (k : Int) ∧ bv = v ∧ Hid (SlB wr wr.heap.size v (encs (l.take k))) ∧ wr.ownsRow w.heap.size 3 1 u k (endsOf l k) ∧ Hid (∀ x ∈ l.take k, x.formed = true) ∧ Hid (Below w.heap.size w wr)) (fun _ _ i _ => n - (intOf i).toNat)
    case atStart => exact ⟨0, .slice none 0 0, Nat.zero_le _, rfl, rfl, SlB.nil, World.ownsRow_nil _ _ _ _, fun x hx => by simp at hx, ee⟩
    case round =>
      clear ee
      obtain ⟨k, vv, hk, rfl, hb, hs, hu, HFO, ee⟩ := hrel
      have hb := hb.symm
      subst hb
      have ee := ee.out
      have hs := hs.out
      by_cases hlt : k < n
      · have hkl : k < l.length := by rw [← HN.out]; exact hlt
        obtain ⟨bo, off, rfl, hbo, hr⟩ := rowsGet HR.out hkl
        have HX : Hid (CmOk w w.heap.size (l[k]'hkl)) := HL.out _ (List.getElem_mem hkl)
        have HK : Hid (encs (l.take (k + 1)) = encs (l.take k) ++ cput [] (l[k]'hkl)) := by show _ = _; rw [List.take_succ_eq_append_getElem hkl, encs_snoc]
        have HKF : Hid (∀ x ∈ l.take (k + 1), x ∈ l.take k ∨ x = l[k]'hkl) := fun x hx => by
          rw [List.take_succ_eq_append_getElem hkl, List.mem_append, List.mem_singleton] at hx
          exact hx
        have HEN := Lib.hid (endsOf_snoc l k)
        have hlen := encs_len (l.take k)
        have hlen2 := encs_len (l.take (k + 1))
        have hlt20 : (l.take k).length ≤ 20 := by rw [List.length_take]; omega
        have hlt21 : (l.take (k + 1)).length ≤ 20 := by rw [List.length_take]; omega
        generalize l[k] = x at hr HX HK HKF
        generalize encs (l.take k) = Ek at hs HK hlen
        rw [HK.out] at HEN hlen2
        go_upto_region 8 with fail
        refine wp_region_lit ?_
        iterate 27 (first | with_reducible refine isLoad (ty := 37) rfl ?_ | go_step)
        refine wpList_load_mid rfl 37 _ rfl (bo) (off + k * 10) rfl (x.cells) _ (rangeB hr ee hbo) Tryd.underlying37 rfl sizeCm ?_
        go_wp2_with fail
        refine (c9_few x.k x.s x.q x.rs x.ws x.A1 x.c1 x.A2 x.c2 x.i x.j x.g x.st x.y wr w.heap.size ee.size (HX.out.below ee (Nat.le_refl _))).mono ?_
        rintro e y1 ⟨⟨r, rfl⟩, t⟩
        have hu := ownBelow hu t
        have hs := hs.belowM t (Nat.le_refl _)
        have sz1 := t.size
        have ee := ee.trans (t.mono ee.size)
        clear t
        dsimp only
        rename_i hK
        refine hK _ _ ?_
        clear hK
        cases r with
        | false =>
          go_wp2_with fail
          go_ret
          exact ⟨rfl, ee⟩
        | true =>
          iterate 36 (first | with_reducible refine isLoad (ty := 37) rfl ?_ | go_step)
          refine wpList_load_g (by rfl) 37 _ rfl (bo) (off + k * 10) rfl (x.cells) _ (rangeB hr ee hbo) Tryd.underlying37 rfl sizeCm ?_
          have HFX := Lib.hid (fun z (hz : Below w.heap.size w z) => cformed_any x.k x.s x.q x.rs x.ws x.A1 x.c1 x.A2 x.c2 x.i x.j x.g x.st x.y z w.heap.size hz.size (HX.out.below hz (Nat.le_refl _)) (HT.out.below hz))
          have HFE : Hid (x.formed = T.cformed x.k x.s x.q x.rs x.ws x.i x.j x.g x.st x.y) := rfl
          rw [← HFE.out] at HFX
          obtain ⟨fx, hfx⟩ : ∃ f, f = x.formed := ⟨_, rfl⟩
          have HFX2 := Lib.hid hfx
          rw [← hfx] at HFX
          clear hfx HFE
          go_wp2_with fail
          refine (HFX.out y1 ee).mono ?_
          rintro e y2 ⟨rfl, t⟩
          have hu := ownBelow hu t
          have hs := hs.belowM t (by omega)
          have sz2 := t.size
          have ee := ee.trans (t.mono ee.size)
          clear t HFX
          cases fx with
          | false =>
            go_wp2_with fail
            go_ret
            exact ⟨rfl, ee⟩
          | true =>
            go_upto_region 10 with fail
            refine wp_region_lit ?_
            iterate 27 (first | with_reducible refine isLoad (ty := 37) rfl ?_ | go_step)
            refine wpList_load_mid rfl 37 _ rfl (bo) (off + k * 10) rfl (x.cells) _ (rangeB hr ee hbo) Tryd.underlying37 rfl sizeCm ?_
            go_wp2_with fail
            refine (cput_s hs (by omega) (by omega) x (CmOk.more (HX.out.below ee (Nat.le_refl _)) ee.size) (HT.out.below ee)).mono ?_
            rintro e y3 ⟨v3, rfl, hs3, t, fr⟩
            have huK := hu
            have hu := ownBelow hu t
            have hlow := huK.lt
            clear huK
            have sz3 := t.size
            have ee := ee.trans (t.mono ee.size)
            clear t hs
            rw [cput_app] at hs3
            have hs4 := Lib.hid hs3
            obtain ⟨vA, vc, rfl, hvc, _, _, _⟩ := hs3
            obtain ⟨ln, hln⟩ : ∃ m, m = (Ek ++ cput [] x).length := ⟨_, rfl⟩
            have HLN := Lib.hid hln
            rw [← hln] at hs4 HEN hvc hlen2 fr ⊢
            clear hln
            go_upto_region 11 with fail
            refine wp_region_lit ?_
            iterate 12 go_step
            have hu := hu.alloc (.cells #[.int .i64 (ln : Int)] 3)
            have e3 := ee.size
            have ZN := hpN y3 (.cells #[.int .i64 (ln : Int)] 3) rfl
            have hs5 : Hid (SlB (y3.alloc (.cells #[.int .i64 (ln : Int)] 3)) y3.heap.size (.slice vA ln vc) (Ek ++ cput [] x)) := hs4.out.belowM ((Below.refl _ _).alloc (Nat.le_refl _) _) (Nat.le_refl _)
            have ee := ee.alloc ee.size (.cells #[.int .i64 (ln : Int)] 3)
            clear hs4
            generalize y3.alloc (.cells #[.int .i64 (ln : Int)] 3) = y4 at hu ZN hs5 ee ⊢
            refine wpList_append_own _ rfl (.tmp 46) (.tmp 49) 78 rfl w.heap.size 3 i1 (.int .i64 0) 1 8 Tryd.underlying78 hi1 hz10 hz11 hz12 rfl (by decide) _ _ _ rfl hu ⟨y3.heap.size, 0, none⟩ 1 1 [.int .i64 (ln : Int)] rfl rfl (rowAdd (cs := [.int .i64 (ln : Int)]) ZN) (by simp [Value.oneCell']) (by unfold maxLen; omega) (by omega) ee.size ?_
            intro u_ y5 ho_ hg_ _
            have hs6 : Hid (SlB y5 y5.heap.size (.slice vA ln vc) (Ek ++ cput [] x)) := (SlB.apart hs5.out hg_ (fun b hb hbu => by have h1 := (hlow b hbu.symm).2; have h2 := fr b hb; omega)).more (by have h1 := (Array.getElem?_eq_some_iff.1 ZN).1; have h2 := hg_.size; omega)
            have ee := ee.grown hg_ ee.size (fun g hg => (hu.lt g hg).1)
            clear hg_ ZN hu hs5
            go_wp2_with fail
            go_roundw
            case rel =>
              refine ⟨k + 1, .slice vA ln vc, by omega, by go_num, rfl, by show SlB _ _ _ _; rw [HK.out]; exact hs6.out, by rw [HEN.out]; exact ho_, fun q hq => ?_, ee⟩
              rcases HKF.out q hq with hq | hq
              · exact HFO.out q hq
              · rw [hq]; exact HFX2.out.symm
            case measure => simp [intOf]; omega
      · obtain rfl : n = k := by omega
        have htk : l.take n = l := List.take_of_length_le (by rw [HN.out]; exact Nat.le_refl _)
        rw [htk] at hs HFO
        have hlen := encs_len l
        rw [← HN.out] at hlen
        clear htk hlt hk
        have hs0 := Lib.hid hs
        obtain ⟨vA, vc, rfl, hvc, hvm, hvA, hvr⟩ := hs
        obtain ⟨T, hTe⟩ : ∃ T, T = (encs l).length := ⟨_, rfl⟩
        have HTE := Lib.hid hTe
        rw [← hTe] at hvc hlen ⊢
        clear hTe
        obtain ⟨q, hq⟩ : ∃ q, q = cut % (T + 1) := ⟨_, rfl⟩
        have hqT : q ≤ T := by have := Nat.mod_lt cut (show 0 < T + 1 by omega); omega
        have HQ : Hid ((cut : Int) % ((T : Int) + 1) = (q : Int)) := by show _ = _; rw [hq]; simp
        have hT1 : ((T : Int) + 1 == 0) = false := by simp; omega
        clear hq
        obtain ⟨eA, ec, rfl, hec, heA, hem⟩ := ownShape hu
        have hql : ((encs l).take q).length = q := by rw [List.length_take, ← HTE.out]; omega
        have HNEW := Lib.hid (new_any vA vc ((encs l).take q) wr wr.heap.size (by rw [hql]; omega) hvm (fun h => ⟨by rw [(hvA h).1]; exact List.take_nil, (hvA h).2⟩) (by rw [← bc_take]; exact hvr.take q) (Nat.le_refl _))
        rw [hql] at HNEW
        have hqi : (0 : Int) ≤ (q : Int) := by omega
        clear hs0 hvA hvr hql heA
        go_upto_region 13 with fail
        rw [HQ.out]
        go_wp2_with fail
        refine HNEW.out.mono ?_
        rintro e y9 ⟨rfl, rr, t⟩
        clear HNEW hT1
        obtain ⟨g, hg_⟩ : ∃ g_, g_ = wr.heap.size := ⟨_, rfl⟩
        obtain ⟨B, hB_⟩ : ∃ B_, B_ = wr.heap.size := ⟨_, rfl⟩
        have hgw : w.heap.size ≤ g := by rw [hg_]; exact ee.size
        have hBw : w.heap.size ≤ B := by rw [hB_]; exact ee.size
        have hu := ownBelow hu t
        have ee := ee.trans (t.mono ee.size)
        clear t
        rw [← hg_] at rr ⊢
        have rr : RdrAt y9 B g ((encs l).take q, false) := by rw [hB_, ← hg_]; exact rr
        clear hg_ hB_
        have hg : g < y9.heap.size := rr.lt.1
        have hBg : B ≤ g := rr.lt.2
        have tt : TabsAt B y9 := ⟨w, HT.out, hBw, ee⟩
        have e0 : y9.grownBy y9 (some g) := ⟨rfl, rfl, rfl, Nat.le_refl _, fun _ _ _ => rfl⟩
        rw [← left_zero l q] at rr
        have HE := Lib.hid ee
        have hu := Lib.hid hu
        have huk := ownKind hu.out (show y9.heap[g]? = some (.cells _ _ _) from rr.choose_spec.choose_spec.1) (by decide)
        have huk := Lib.hid huk
        clear ee
        go_wp2_with fail
        go_loopw [10] (fun i wr => ∃ k : Nat, k ≤ n ∧ i = .int .i64 (k : Int) ∧ Hid ((encs (l.take k)).length ≤ q) ∧ RdrAt wr B g (leftAt l q k, false) ∧ TabsAt B wr ∧ y9.grownBy wr (some g)) (fun i _ => n - (intOf i).toNat)
        case atStart => exact ⟨0, Nat.zero_le _, rfl, Nat.zero_le _, rr, tt, e0⟩
        case round =>
          clear rr tt e0
          obtain ⟨k, hk, rfl, HKQ, rr, tt, e0⟩ := hrel
          by_cases hlt : k < n
          · have hkl : k < l.length := by rw [← HN.out]; exact hlt
            obtain ⟨bo, off, rfl, hbo, hr⟩ := rowsGet HR.out hkl
            have HX : Hid (CmOk w w.heap.size (l[k]'hkl)) := HL.out _ (List.getElem_mem hkl)
            have HF : Hid ((l[k]'hkl).formed = true) := HFO.out _ (List.getElem_mem hkl)
            have HLS := Lib.hid (left_step l q k hkl)
            have HLC := Lib.hid (left_cut l q k hkl HKQ.out)
            generalize l[k] = x at hr HX HF HLS HLC
            obtain ⟨T', hT'⟩ : ∃ T', T' = (encs (l.take (k + 1))).length := ⟨_, rfl⟩
            have HT' := Lib.hid hT'
            have hcell : (endsOf l n)[k]? = some (.int .i64 (T' : Int)) := by
              rw [hT']; unfold endsOf; rw [List.getElem?_map, List.getElem?_range hlt]; rfl
            rw [← hT'] at HLS HLC
            clear hT'
            go_upto_region 17 with fail
            refine wp_region_lit ?_
            go_wp2_with fail
            refine (takec_any B g wr _ rr tt).mono ?_
            rintro e z1 ⟨⟨y, rfl, hsy, oky⟩, rr, t⟩
            have e0 := grownTrans e0 t
            have tt := TabsAt.grown tt t hBg
            have hu1 := hu.out.kept e0 (Or.inr huk.out)
            have hEz : Below w.heap.size w z1 := HE.out.grown e0 HE.out.size (fun q hq => by injection hq with hq; omega)
            have hr := rangeB hr hEz hbo
            have okX := HX.out.below hEz (Nat.le_refl _)
            clear t
            have ee : Below z1.heap.size z1 z1 := Below.refl _ _
            dsimp only
            rename_i hK
            refine hK _ _ ?_
            clear hK
            iterate 3 go_step
            have e0s := ee.size
            have ee := ee.alloc ee.size (.cells #[.int .i64 0, .int .i64 0, .int .i64 0, .slice none 0 0, .slice none 0 0, .int .i64 0, .int .i64 0, .int .i64 0, .int .u64 0, .bool false] 37)
            have Zy := hpN z1 (.cells #[.int .i64 0, .int .i64 0, .int .i64 0, .slice none 0 0, .slice none 0 0, .int .i64 0, .int .i64 0, .int .i64 0, .int .u64 0, .bool false] 37) rfl
            generalize z1.alloc (.cells #[.int .i64 0, .int .i64 0, .int .i64 0, .slice none 0 0, .slice none 0 0, .int .i64 0, .int .i64 0, .int .i64 0, .int .u64 0, .bool false] 37) = z11 at Zy ee ⊢
            iterate 27 (first | with_reducible refine isStore (ty := 37) rfl ?_ | go_step)
            refine wpList_store_row rfl 37 _ _ rfl (z1.heap.size) (y.cells).toArray rfl rfl 37 _ Zy sizeCm (by rfl) (Cm.one _) ?_
            have N_ := setRow_heap z11 (z1.heap.size) _ (y.cells).toArray _ _ Zy
            have ee := belowSet (cs := (y.cells).toArray) ee Zy (by omega)
            clear Zy
            have Zy := N_
            clear N_
            generalize z11.setRow (z1.heap.size) (y.cells).toArray = z12 at Zy ee ⊢
            have hu2 := ownBelow hu1 ee
            obtain ⟨eb, eo, rfl, _, hce⟩ := (Rd.ofOwn hu2) k _ hcell
            have hkn1 : (0 : Int) ≤ (k : Int) := by omega
            have hkn2 : (k : Int) < (n : Int) := by omega
            clear hu1 hu2 hcell
            by_cases hgt : q < T'
            · have f1 : decide ((q : Int) < (T' : Int)) = true := by simp; omega
              obtain ⟨rs, hrs1, hrs2⟩ := HLC.out hgt
              obtain ⟨hc1, hc2⟩ := ctake_cut HF.out HX.out.fits hrs1 hrs2
              rw [hc2] at hsy
              have rr := RdrAt.below rr ee
              generalize (ctake (leftAt l q k, false)).2 = st at rr hc1
              obtain ⟨ls, f⟩ := st
              simp only at hc1
              subst hc1
              have HSM : Hid (∀ z, Below z1.heap.size z1 z → Calls Tryd.prog 31 #[.agg y.cells.toArray, .agg Cm.zero.cells.toArray] z fun e w' => e = .returned (.bool true) ∧ Below z.heap.size z w') := fun z hz => by
                have := csame_any y.k y.s y.q y.rs y.ws y.A1 y.c1 y.A2 y.c2 y.i y.j y.g y.st y.y 0 0 0 [] [] none 0 none 0 0 0 0 0 false z z1.heap.size hz.size (oky.below hz (Nat.le_refl _)) TxOk.zero
                have e1 : SameC y Cm.zero = true := hsy
                unfold SameC at e1
                rw [show decide (y.k = 0 ∧ (y.i = 0 ∧ y.j = 0) ∧ y.g = 0 ∧ y.st = 0 ∧ y.y = false ∧ y.s = 0 ∧ y.q = 0 ∧ y.rs = [] ∧ y.ws = []) = true from e1] at this
                exact this
              go_wp2_with fail
              refine (ok_any B g (ls, true) z12 rr).mono ?_
              rintro e z8 ⟨rfl, hw_⟩
              rw [← hw_]
              clear hw_ z8
              dsimp only
              rename_i hK
              refine hK _ _ ?_
              clear hK
              iterate 27 (first | with_reducible refine isLoad (ty := 37) rfl ?_ | go_step)
              refine wpList_load_g (by rfl) 37 _ rfl (z1.heap.size) 0 rfl (y.cells) _ (rowAt Zy) Tryd.underlying37 rfl sizeCm ?_
              go_wp2_with fail
              refine (HSM.out z12 ee).mono ?_
              rintro e z9 ⟨rfl, t⟩
              go_wp2_with fail
              go_ret
              exact ⟨rfl, hEz.trans ((ee.trans (t.mono ee.size)).mono hEz.size)⟩
            · have f1 : decide ((q : Int) < (T' : Int)) = false := by simp; omega
              have hle : T' ≤ q := by omega
              have hls := HLS.out hle
              obtain ⟨m, hm1, hm2⟩ := cback x (leftAt l q (k + 1)) HF.out HX.out.fits
              rw [← hls] at hm1
              rw [hm1] at rr hsy
              simp only at rr hsy
              have HSM : Hid (∀ z, Below z1.heap.size z1 z → Calls Tryd.prog 16 #[.agg y.cells.toArray, .agg x.cells.toArray] z fun e w' => e = .returned (.bool true) ∧ Below z.heap.size z w') := fun z hz => by
                have := rcsame_any y.k y.s y.q y.rs y.ws y.A1 y.c1 y.A2 y.c2 y.i y.j y.g y.st y.y x.k x.s x.q x.rs x.ws x.A1 x.c1 x.A2 x.c2 x.i x.j x.g x.st x.y z z1.heap.size hz.size (oky.below hz (Nat.le_refl _)) (CmOk.more (okX.below hz hEz.size) hEz.size)
                have e1 : SameC y x = true := SameC.trans hsy hm2
                unfold SameC at e1
                rw [e1] at this
                exact this
              have rr := RdrAt.below rr ee
              clear hm1 hm2 hls hsy hgt
              go_upto_region 20 with fail
              have rr := RdrAt.drewS rr
              have Zy : z12.drew.heap[z1.heap.size]? = some (.cells (y.cells).toArray 37) := Zy
              have ee := belowDrewS ee
              refine wp_region_held_drew (S := fun z' => z'.rangeAt (z1.heap.size) 0 y.cells ∧ z'.rangeAt bo (off + k * 10) x.cells) (by kernel_rfl) ⟨rowAt Zy, rangeB hr ee (by have := hEz.size; omega)⟩ (fun hH => ?_)
              clear hH
              generalize z12.drew = z13 at Zy rr ee ⊢
              refine wpAnyH_take (i := 0) (v := .pointer (some ⟨g, 0, none⟩)) rfl (by kernel_rfl) (by kernel_rfl) (by kernel_rfl) (fun _ _ _ h => h) (Or.inl ⟨by rfl, fun w_ hS_ => by (first | (go_simp; done) | (go_simp; rfl))⟩) ⟨rowAt Zy, rangeB hr ee (by have := hEz.size; omega)⟩ ?_
              try simp only [Act.put, List.getElem_toArray, List.getElem_cons_zero, List.getElem_cons_succ, List.setIfInBounds_toArray, List.set_cons_zero, List.set_cons_succ]
              refine wpAnyH_ready (rs := [1]) (by kernel_rfl) (by simp) ?_
              refine AllReadyH.cons rfl (fun K hK => ?_) AllReadyH.nil
              rw [if_pos (by rfl)]
              go_simp
              go_wp2_with (go_at_call 37; refine (ok_any B g _ z13 rr).mono ?_; rintro e z14 ⟨rfl, hw_⟩; rw [← hw_]; clear hw_ z14)
              refine hK.out _ _ ⟨rowAt Zy, rangeB hr ee (by have := hEz.size; omega)⟩ (fun hH => ?_)
              clear hK K hH
              try simp only [Act.put, List.getElem_toArray, List.getElem_cons_zero, List.getElem_cons_succ, List.setIfInBounds_toArray, List.set_cons_zero, List.set_cons_succ]
              refine wpAnyH_take (i := 2) (v := .bool false) rfl (by kernel_rfl) (by kernel_rfl) (by kernel_rfl) (fun _ _ _ h => h) (Or.inl ⟨by rfl, fun w_ hS_ => by (first | (go_simp; done) | (go_simp; rfl))⟩) ⟨rowAt Zy, rangeB hr ee (by have := hEz.size; omega)⟩ ?_
              try simp only [Act.put, List.getElem_toArray, List.getElem_cons_zero, List.getElem_cons_succ, List.setIfInBounds_toArray, List.set_cons_zero, List.set_cons_succ]
              refine wpAnyH_take (i := 3) (v := .bool false) rfl (by kernel_rfl) (by kernel_rfl) (by kernel_rfl) (fun _ _ _ h => h) (Or.inl ⟨by rfl, fun w_ hS_ => by (first | (go_simp; done) | (go_simp; rfl))⟩) ⟨rowAt Zy, rangeB hr ee (by have := hEz.size; omega)⟩ ?_
              try simp only [Act.put, List.getElem_toArray, List.getElem_cons_zero, List.getElem_cons_succ, List.setIfInBounds_toArray, List.set_cons_zero, List.set_cons_succ]
              refine wpAnyH_take (i := 4) (v := .agg ((y.cells)).toArray) rfl (by kernel_rfl) (by kernel_rfl) (by kernel_rfl) (fun _ _ _ h => h) (yieldsIf_load_mid (by rfl) 37 _ rfl (z1.heap.size) 0 rfl ((y.cells)) _ (fun _ h => h.1) Tryd.underlying37 rfl sizeCm) ⟨rowAt Zy, rangeB hr ee (by have := hEz.size; omega)⟩ ?_
              try simp only [Act.put, List.getElem_toArray, List.getElem_cons_zero, List.getElem_cons_succ, List.setIfInBounds_toArray, List.set_cons_zero, List.set_cons_succ]
              refine wpAnyH_take (i := 5) (v := .slice (some ⟨bo, off, none⟩) n c) rfl (by kernel_rfl) (by kernel_rfl) (by kernel_rfl) (fun _ _ _ h => h) (Or.inl ⟨by rfl, fun w_ hS_ => by (first | (go_simp; done) | (go_simp; rfl))⟩) ⟨rowAt Zy, rangeB hr ee (by have := hEz.size; omega)⟩ ?_
              try simp only [Act.put, List.getElem_toArray, List.getElem_cons_zero, List.getElem_cons_succ, List.setIfInBounds_toArray, List.set_cons_zero, List.set_cons_succ]
              refine wpAnyH_take (i := 6) (v := .int .i64 (k : Int)) rfl (by kernel_rfl) (by kernel_rfl) (by kernel_rfl) (fun _ _ _ h => h) (Or.inl ⟨by rfl, fun w_ hS_ => by (first | (go_simp; done) | (go_simp; rfl))⟩) ⟨rowAt Zy, rangeB hr ee (by have := hEz.size; omega)⟩ ?_
              try simp only [Act.put, List.getElem_toArray, List.getElem_cons_zero, List.getElem_cons_succ, List.setIfInBounds_toArray, List.set_cons_zero, List.set_cons_succ]
              refine wpAnyH_take (i := 7) (v := .pointer (some ⟨bo, off + k * 10, none⟩)) rfl (by kernel_rfl) (by kernel_rfl) (by kernel_rfl) (fun _ _ _ h => h) (Or.inl ⟨by rfl, fun w_ hS_ => by (first | (go_simp; done) | (go_simp; rfl))⟩) ⟨rowAt Zy, rangeB hr ee (by have := hEz.size; omega)⟩ ?_
              try simp only [Act.put, List.getElem_toArray, List.getElem_cons_zero, List.getElem_cons_succ, List.setIfInBounds_toArray, List.set_cons_zero, List.set_cons_succ]
              refine wpAnyH_take (i := 8) (v := .agg (x.cells).toArray) rfl (by kernel_rfl) (by kernel_rfl) (by kernel_rfl) (fun _ _ _ h => h) (yieldsIf_load_mid (by rfl) 37 _ rfl (bo) (off + k * 10) rfl (x.cells) _ (fun _ h => h.2) Tryd.underlying37 rfl sizeCm) ⟨rowAt Zy, rangeB hr ee (by have := hEz.size; omega)⟩ ?_
              try simp only [Act.put, List.getElem_toArray, List.getElem_cons_zero, List.getElem_cons_succ, List.setIfInBounds_toArray, List.set_cons_zero, List.set_cons_succ]
              refine wpAnyH_ready (rs := [9]) (by kernel_rfl) (by simp) ?_
              refine AllReadyH.cons rfl (fun K hK => ?_) AllReadyH.nil
              rw [if_pos (by rfl)]
              go_simp
              go_wp2_with (go_at_call 16; refine (HSM.out z13 ee).mono ?_; rintro e z15 ⟨rfl, t⟩)
              have Zy := hpB Zy t
              have ee := ee.trans (t.mono ee.size)
              have rr := RdrAt.below rr t
              clear t
              refine hK.out _ _ ⟨rowAt Zy, rangeB hr ee (by have := hEz.size; omega)⟩ (fun hH => ?_)
              clear hK K hH
              try simp only [Act.put, List.getElem_toArray, List.getElem_cons_zero, List.getElem_cons_succ, List.setIfInBounds_toArray, List.set_cons_zero, List.set_cons_succ]
              refine wpAnyH_take (i := 10) (v := .bool false) rfl (by kernel_rfl) (by kernel_rfl) (by kernel_rfl) (fun _ _ _ h => h) (Or.inl ⟨by rfl, fun w_ hS_ => by (first | (go_simp; done) | (go_simp; rfl))⟩) ⟨rowAt Zy, rangeB hr ee (by have := hEz.size; omega)⟩ ?_
              try simp only [Act.put, List.getElem_toArray, List.getElem_cons_zero, List.getElem_cons_succ, List.setIfInBounds_toArray, List.set_cons_zero, List.set_cons_succ]
              refine wpAnyH_take (i := 11) (v := .bool false) rfl (by kernel_rfl) (by kernel_rfl) (by kernel_rfl) (fun _ _ _ h => h) (Or.inl ⟨by rfl, fun w_ hS_ => by (first | (go_simp; done) | (go_simp; rfl))⟩) ⟨rowAt Zy, rangeB hr ee (by have := hEz.size; omega)⟩ ?_
              try simp only [Act.put, List.getElem_toArray, List.getElem_cons_zero, List.getElem_cons_succ, List.setIfInBounds_toArray, List.set_cons_zero, List.set_cons_succ]
              refine wpAnyH_done (by kernel_rfl) ?_ _
              go_wp2_with fail
              go_roundw
              case rel => exact ⟨k + 1, by omega, by go_num, by show _ ≤ _; rw [← HT'.out]; exact hle, rr, TabsAt.belowS tt ee, grownBelow e0 ee⟩
              case measure => simp [intOf]; omega
          · obtain rfl : n = k := by omega
            have hz : leftAt l q n = [] := by unfold leftAt; rw [HN.out, List.drop_length]; simp [encs]
            rw [hz] at rr
            have hEz : Below w.heap.size w wr := HE.out.grown e0 HE.out.size (fun q hq => by injection hq with hq; omega)
            go_wp2_with fail
            refine (end_any B g _ wr rr).mono ?_
            rintro e z8 ⟨rfl, hw_⟩
            rw [← hw_]
            clear hw_ z8
            go_wp2_with fail
            go_ret
            exact ⟨rfl, hEz⟩
theorem commandBack_walk (W : World) (hT : Tabs W) (v0 v1 : Value) (h0 : Arg W 76 v0) (h1 : Arg W 77 v1) :
    Calls Tryd.prog 9 #[v0, v1] W fun e W' => e = .returned (.bool true) ∧ Below W.heap.size W W' := by
  obtain ⟨A, c, ls, rfl, h2, h3, h4, h5⟩ := h0.cms
  obtain ⟨a, rfl, ha⟩ := h1.u16 Tryd.underlying77
  exact back_mid A c ls a ha W h2 h3 h4 h5 hT
end Go.Proofs.YtkfnepmiigkdfaaDoor

namespace Go.Proofs.YtkfnepmiigkdfaaDoor
set_option maxRecDepth 20001
open Go.RowKit T
set_option linter.unusedSimpArgs false
set_option linter.unusedVariables false

set_option maxHeartbeats 6400000 in
theorem cbytes_mid (x : Cm) (A : Option Addr) (c : Nat) (l : List UInt8) (w : World) (okx : CmOk w w.heap.size x) (hc : l.length ≤ c) (hm : c ≤ maxLen) (hA : A = none → l = [] ∧ c = 0) (hr : Rd w w.heap.size A (bc l)) (hT : Tabs w) :
    Calls Tryd.prog 10 #[.agg x.cells.toArray, .slice A l.length c] w fun e w' => e = .returned (.bool true) ∧ Below w.heap.size w w' := by
  have HT := Lib.hid hT
  have HX := Lib.hid okx
  have HRD := Lib.hid hr
  have HAN := Lib.hid hA
  have HAW := Lib.hid (fun z (hz : Below w.heap.size w z) => c9_awake z (hT.below hz))
  have HWx := Lib.hid (fun z (hz : Below w.heap.size w z) => c9_few x.k x.s x.q x.rs x.ws x.A1 x.c1 x.A2 x.c2 x.i x.j x.g x.st x.y z w.heap.size hz.size (okx.below hz (Nat.le_refl _)))
  obtain ⟨n, hn⟩ : ∃ n, n = l.length := ⟨_, rfl⟩
  have HN := Lib.hid hn
  rw [← hn] at hc ⊢
  clear hn okx hT hr hA
  obtain ⟨w0, hw0⟩ : ∃ w0, w0 = w.alloc (.cells x.cells.toArray 37) := ⟨_, rfl⟩
  have ee : Below w.heap.size w w0 := by rw [hw0]; exact (Below.refl _ _).alloc (Nat.le_refl _) _
  have Zx : w0.heap[w.heap.size]? = some (.cells x.cells.toArray 37) := by rw [hw0]; exact hpN _ _ rfl
  go_enter Tryd.func10, Tryd.ntmps10
  go_upto_region 1 with fail
  change Code.wp _ _ _ _ (w.alloc (.cells x.cells.toArray 37))
  rw [← hw0]
  clear hw0
  refine wp_region_lit ?_
  go_wp2_with fail
  refine (HAW.out w0 ee).mono ?_
  rintro e z1 ⟨rfl, t⟩
  have Zx := hpB Zx t
  have ee := ee.trans (t.mono ee.size)
  clear t
  dsimp only
  rename_i hK
  refine hK _ _ ?_
  clear hK
  iterate 27 (first | with_reducible refine isLoad (ty := 37) rfl ?_ | go_step)
  refine wpList_load_g (by rfl) 37 _ rfl (w.heap.size) 0 rfl (x.cells) _ (rowAt Zx) Tryd.underlying37 rfl sizeCm ?_
  go_wp2_with fail
  refine (HWx.out z1 ee).mono ?_
  rintro e z2 ⟨⟨r, rfl⟩, t⟩
  have Zx := hpB Zx t
  have ee := ee.trans (t.mono ee.size)
  clear t
  cases r with
  | false =>
    go_wp2_with fail
    refine (HAW.out z2 ee).mono ?_
    rintro e z3 ⟨rfl, t⟩
    have Zx := hpB Zx t
    have ee := ee.trans (t.mono ee.size)
    clear t
    go_wp2_with fail
    go_ret
    exact ⟨rfl, ee⟩
  | true =>
    by_cases hl : 2000 < n
    · have hl : decide ((2000 : Int) < (n : Int)) = true := by simp; omega
      go_wp2_with fail
      refine (HAW.out z2 ee).mono ?_
      rintro e z3 ⟨rfl, t⟩
      have Zx := hpB Zx t
      have ee := ee.trans (t.mono ee.size)
      clear t
      go_wp2_with fail
      go_ret
      exact ⟨rfl, ee⟩
    · have hln : n ≤ 2000 := by omega
      clear HAW HWx
      have hl : decide ((2000 : Int) < (n : Int)) = false := by simp; omega
      have hlc : l.length ≤ c := by rw [← HN.out]; exact hc
      have HNW := Lib.hid (fun z (hz : Below w.heap.size w z) => new_any A c l z w.heap.size hlc hm HAN.out (HRD.out.below hz) hz.size)
      rw [← HN.out] at HNW
      go_upto_region 3 with fail
      clear hl
      go_wp2_with fail
      refine (HNW.out z2 ee).mono ?_
      rintro e z3 ⟨rfl, rr, t⟩
      obtain ⟨g, hg_⟩ : ∃ g_, g_ = z2.heap.size := ⟨_, rfl⟩
      rw [← hg_] at rr ⊢
      have hg : g < z3.heap.size := rr.lt.1
      have hxg : w.heap.size < g := by have := (Array.getElem?_eq_some_iff.1 Zx).1; omega
      have Zx := hpB Zx t
      have ee := ee.trans (t.mono ee.size)
      clear t hg_ HNW
      go_wp2_with fail
      obtain ⟨h, hh_⟩ : ∃ h_, h_ = z3.heap.size := ⟨_, rfl⟩
      have hgh : g < h := by omega
      have rq : RefAt (z3.alloc (.cells #[.slice A n c, .int .i64 0, .bool false] 85)) w.heap.size z3.heap.size (l, false) := by
        rw [HN.out]
        exact ⟨A, c, l, 0, heap_alloc_new z3 _, Nat.zero_le _, by rw [← HN.out]; omega, hlc, (HRD.out.below ee).alloc ee.size _, ee.size, by simp⟩
      have rr := RdrAt.alloc rr (.cells #[.slice A n c, .int .i64 0, .bool false] 85)
      have Zx := hpA Zx (.cells #[.slice A n c, .int .i64 0, .bool false] 85)
      have hh : h < (z3.alloc (.cells #[.slice A n c, .int .i64 0, .bool false] 85)).heap.size := by rw [hh_]; simp
      have ee := ee.alloc ee.size (.cells #[.slice A n c, .int .i64 0, .bool false] 85)
      rw [← hh_] at rq ⊢
      clear hh_
      generalize z3.alloc (.cells #[.slice A n c, .int .i64 0, .bool false] 85) = z4 at rq rr Zx hh ee ⊢
      have hg : g < z4.heap.size := by omega
      have tt : TabsAt w.heap.size z4 := ⟨w, HT.out, Nat.le_refl _, ee⟩
      have HAL := Lib.hid (ctake_agree (l, false))
      refine (takec_fresh w.heap.size g z4 (l, false) rr tt).mono ?_
      rintro e z5 ⟨⟨y, rfl, hsy, HK⟩, rr, t⟩
      have rq := rq.other t (by omega) (by omega)
      have Zx := heapG Zx t (by omega)
      have ee := ee.grown t ee.size (fun q hq => by injection hq with hq; omega)
      have hsz := t.size
      have hh1 : h < z5.heap.size := by omega
      clear t tt
      have HK := Lib.hid HK
      go_wp2_with fail
      refine (rtakec_any w.heap.size h z5 (l, false) rq).mono ?_
      rintro e z6 ⟨⟨q, rfl, hsq, okq⟩, rq, t⟩
      have oky : CmOk z6 z6.heap.size y := HK.out z6 (fun i h1 h2 => t.block i h2 (fun e => by injection e with e; omega))
      have rr := rr.other t (by omega) (by omega)
      have Zx := heapG Zx t (by omega)
      have ee := ee.grown t ee.size (fun q hq => by injection hq with hq; omega)
      have hsz2 := t.size
      clear t HK
      obtain ⟨S1, hS1⟩ : ∃ S, S = ctake (l, false) := ⟨_, rfl⟩
      obtain ⟨S2, hS2⟩ : ∃ S, S = rctake (l, false) := ⟨_, rfl⟩
      rw [← hS1] at HAL rr hsy
      rw [← hS2] at HAL rq hsq
      clear hS1 hS2
      have HLF : Hid (C.left S2.2 = C.left S1.2) := HAL.out.left
      have HFF : Hid (S2.2.2 = S1.2.2) := HAL.out.2.1
      have HSYQ : Hid (SameC y q = true) := by
        have e1 := HAL.out.1
        exact (SameC_iff _ _).2 (by have a1 := (SameC_iff _ _).1 hsy; have a2 := (SameC_iff _ _).1 hsq; rw [e1] at a2; exact ⟨a1.1.trans a2.1.symm, a1.2.1.trans a2.2.1.symm, a1.2.2.1.trans a2.2.2.1.symm, a1.2.2.2.1.trans a2.2.2.2.1.symm, a1.2.2.2.2.1.trans a2.2.2.2.2.1.symm, a1.2.2.2.2.2.1.trans a2.2.2.2.2.2.1.symm, a1.2.2.2.2.2.2.1.trans a2.2.2.2.2.2.2.1.symm, a1.2.2.2.2.2.2.2.1.trans a2.2.2.2.2.2.2.2.1.symm, a1.2.2.2.2.2.2.2.2.1.trans a2.2.2.2.2.2.2.2.2.1.symm, a1.2.2.2.2.2.2.2.2.2.trans a2.2.2.2.2.2.2.2.2.2.symm⟩)
      clear HAL hsy hsq
      skip
      have e9 : Below z6.heap.size z6 z6 := Below.refl _ _
      have ees := ee.size
      have hgz : g < z6.heap.size := rr.lt.1
      have hhz : h < z6.heap.size := rq.lt.1
      obtain ⟨y0, s1, f1⟩ := S1
      obtain ⟨q0, s2, f2⟩ := S2
      have hff : f2 = f1 := HFF.out
      subst hff
      have HPUT := Lib.hid (fun z (hz : Below w.heap.size w z) => cput_s (show SlB z w.heap.size (.slice A l.length c) l from ⟨A, c, rfl, hlc, hm, HAN.out, HRD.out.below hz⟩) (by rw [← HN.out]; omega) hz.size x (CmOk.more (HX.out.below hz (Nat.le_refl _)) hz.size) (HT.out.below hz))
      have HRPUT := Lib.hid (fun z (hz : Below w.heap.size w z) => (rcput_s (show SlB z w.heap.size (.slice A l.length c) l from ⟨A, c, rfl, hlc, hm, HAN.out, HRD.out.below hz⟩) (by rw [← HN.out]; omega) hz.size x (CmOk.more (HX.out.below hz (Nat.le_refl _)) hz.size)).mono fun _ _ h => GotB.of h)
      have hlen9 : (cput l x).length ≤ 1099511627776 := by
        have a1 := cput_len9 x
        rw [cput_app, List.length_append, ← HN.out]
        omega
      have HSD := Lib.hid (fun (z : World) (B1 B2 : Nat) (v u : Value) (h1 : SlB z B1 v (cput l x)) (h2 : SlB z B2 u (cput l x)) => by
        have := samed_s h1 h2 hlen9 hlen9
        rw [decide_eq_true rfl] at this
        exact this)
      rw [← HN.out] at HPUT HRPUT
      generalize cput l x = PB at HPUT HRPUT HSD hlen9
      have HSM : Hid (∀ z, Below z6.heap.size z6 z → Calls Tryd.prog 16 #[.agg y.cells.toArray, .agg q.cells.toArray] z fun e w' => e = .returned (.bool true) ∧ Below z.heap.size z w') := fun z hz => by
        have := rcsame_any y.k y.s y.q y.rs y.ws y.A1 y.c1 y.A2 y.c2 y.i y.j y.g y.st y.y q.k q.s q.q q.rs q.ws q.A1 q.c1 q.A2 q.c2 q.i q.j q.g q.st q.y z z6.heap.size hz.size (oky.below hz (Nat.le_refl _)) (okq.below hz (Nat.le_refl _))
        have e1 : SameC y q = true := HSYQ.out
        unfold SameC at e1
        rw [e1] at this
        exact this
      obtain ⟨LL, hLL⟩ : ∃ LL, LL = C.left (s1, f2) := ⟨_, rfl⟩
      have HL1 := Lib.hid (fun z (hz : RdrAt z w.heap.size g (s1, f2)) => left_any w.heap.size g (s1, f2) z hz)
      have HL2 := Lib.hid (fun z (hz : RefAt z w.heap.size h (s2, f2)) => rleft_any w.heap.size h (s2, f2) z hz)
      rw [show C.left (s2, f2) = C.left (s1, f2) from HLF.out] at HL2
      rw [← hLL] at HL1 HL2
      clear hLL HLF HFF HSYQ oky okq hlen9
      dsimp only
      rename_i hK
      refine hK _ _ ?_
      clear hK
      iterate 3 go_step
      have e9s := e9.size
      have lZx := (Array.getElem?_eq_some_iff.1 Zx).1
      have Zx := hpA Zx (.cells #[.int .i64 0, .int .i64 0, .int .i64 0, .slice none 0 0, .slice none 0 0, .int .i64 0, .int .i64 0, .int .i64 0, .int .u64 0, .bool false] 37)
      have ee := ee.alloc ee.size (.cells #[.int .i64 0, .int .i64 0, .int .i64 0, .slice none 0 0, .slice none 0 0, .int .i64 0, .int .i64 0, .int .i64 0, .int .u64 0, .bool false] 37)
      have e9 := e9.alloc e9.size (.cells #[.int .i64 0, .int .i64 0, .int .i64 0, .slice none 0 0, .slice none 0 0, .int .i64 0, .int .i64 0, .int .i64 0, .int .u64 0, .bool false] 37)
      have Zy := hpN z6 (.cells #[.int .i64 0, .int .i64 0, .int .i64 0, .slice none 0 0, .slice none 0 0, .int .i64 0, .int .i64 0, .int .i64 0, .int .u64 0, .bool false] 37) rfl
      generalize z6.alloc (.cells #[.int .i64 0, .int .i64 0, .int .i64 0, .slice none 0 0, .slice none 0 0, .int .i64 0, .int .i64 0, .int .i64 0, .int .u64 0, .bool false] 37) = z7 at Zx Zy ee e9 ⊢
      have e9t := e9.size
      iterate 3 go_step
      have lZx := (Array.getElem?_eq_some_iff.1 Zx).1
      have lZy := (Array.getElem?_eq_some_iff.1 Zy).1
      have Zx := hpA Zx (.cells #[.int .i64 0, .int .i64 0, .int .i64 0, .slice none 0 0, .slice none 0 0, .int .i64 0, .int .i64 0, .int .i64 0, .int .u64 0, .bool false] 41)
      have Zy := hpA Zy (.cells #[.int .i64 0, .int .i64 0, .int .i64 0, .slice none 0 0, .slice none 0 0, .int .i64 0, .int .i64 0, .int .i64 0, .int .u64 0, .bool false] 41)
      have ee := ee.alloc ee.size (.cells #[.int .i64 0, .int .i64 0, .int .i64 0, .slice none 0 0, .slice none 0 0, .int .i64 0, .int .i64 0, .int .i64 0, .int .u64 0, .bool false] 41)
      have e9 := e9.alloc e9.size (.cells #[.int .i64 0, .int .i64 0, .int .i64 0, .slice none 0 0, .slice none 0 0, .int .i64 0, .int .i64 0, .int .i64 0, .int .u64 0, .bool false] 41)
      have Zq := hpN z7 (.cells #[.int .i64 0, .int .i64 0, .int .i64 0, .slice none 0 0, .slice none 0 0, .int .i64 0, .int .i64 0, .int .i64 0, .int .u64 0, .bool false] 41) rfl
      generalize z7.alloc (.cells #[.int .i64 0, .int .i64 0, .int .i64 0, .slice none 0 0, .slice none 0 0, .int .i64 0, .int .i64 0, .int .i64 0, .int .u64 0, .bool false] 41) = z8 at Zx Zy Zq ee e9 ⊢
      have lZy := (Array.getElem?_eq_some_iff.1 Zy).1
      iterate 27 (first | with_reducible refine isStore (ty := 37) rfl ?_ | go_step)
      refine wpList_store_row rfl 37 _ _ rfl (z6.heap.size) (y.cells).toArray rfl rfl 37 _ Zy sizeCm (by rfl) (Cm.one _) ?_
      have N_ := setRow_heap z8 (z6.heap.size) _ (y.cells).toArray _ _ Zy
      have ee := belowSet (cs := (y.cells).toArray) ee Zy (by omega)
      have e9 := belowSet (cs := (y.cells).toArray) e9 Zy (by omega)
      have Zx := hpR Zx (g' := z6.heap.size) (by omega) (y.cells).toArray
      have Zq := hpR Zq (g' := z6.heap.size) (by omega) (y.cells).toArray
      clear Zy
      have Zy := N_
      clear N_
      generalize z8.setRow (z6.heap.size) (y.cells).toArray = z9 at Zx Zy Zq ee e9 ⊢
      iterate 27 (first | with_reducible refine isStore (ty := 41) rfl ?_ | go_step)
      refine wpList_store_row rfl 41 _ _ rfl (z7.heap.size) (q.cells).toArray rfl rfl 41 _ Zq sizeRCm (by rfl) (Cm.one _) ?_
      have N_ := setRow_heap z9 (z7.heap.size) _ (q.cells).toArray _ _ Zq
      have ee := belowSet (cs := (q.cells).toArray) ee Zq (by omega)
      have e9 := belowSet (cs := (q.cells).toArray) e9 Zq (by omega)
      have Zx := hpR Zx (g' := z7.heap.size) (by omega) (q.cells).toArray
      have Zy := hpR Zy (g' := z7.heap.size) (by omega) (q.cells).toArray
      clear Zq
      have Zq := N_
      clear N_
      generalize z9.setRow (z7.heap.size) (q.cells).toArray = z10 at Zx Zy Zq ee e9 ⊢
      have rr := RdrAt.drewS (RdrAt.below rr e9)
      have rq := RefAt.drewS (RefAt.below rq e9)
      go_upto_region 5 with fail
      cases f2 with
      | true =>
        have Zx : z10.drew.heap[w.heap.size]? = some (.cells x.cells.toArray 37) := Zx
        have Zy : z10.drew.heap[z6.heap.size]? = some (.cells (y.cells).toArray 37) := Zy
        have Zq : z10.drew.heap[z7.heap.size]? = some (.cells (q.cells).toArray 41) := Zq
        have ee := belowDrewS ee
        have e9 := belowDrewS e9
        refine wp_region_held_drew (S := fun z' => z'.rangeAt w.heap.size 0 x.cells ∧ z'.rangeAt (z6.heap.size) 0 y.cells ∧ z'.rangeAt (z7.heap.size) 0 q.cells ∧ z'.cell? ⟨h, 2, none⟩ = some (.bool true)) (by kernel_rfl) ⟨rowAt Zx, rowAt Zy, rowAt Zq, RefAt.cell rq⟩ (fun hH => ?_)
        clear hH
        generalize z10.drew = z11 at Zx Zy Zq rr rq ee e9 ⊢
        refine wpAnyH_take (i := 0) (v := .slice A n c) rfl (by kernel_rfl) (by kernel_rfl) (by kernel_rfl) (fun _ _ _ h => h) (Or.inl ⟨by rfl, fun w_ hS_ => by (first | (go_simp; done) | (go_simp; rfl))⟩) ⟨rowAt Zx, rowAt Zy, rowAt Zq, RefAt.cell rq⟩ ?_
        try simp only [Act.put, List.getElem_toArray, List.getElem_cons_zero, List.getElem_cons_succ, List.setIfInBounds_toArray, List.set_cons_zero, List.set_cons_succ]
        refine wpAnyH_take (i := 1) (v := .agg (x.cells).toArray) rfl (by kernel_rfl) (by kernel_rfl) (by kernel_rfl) (fun _ _ _ h => h) (yieldsIf_load_mid (by rfl) 37 _ rfl (w.heap.size) 0 rfl (x.cells) _ (fun _ h => h.1) Tryd.underlying37 rfl sizeCm) ⟨rowAt Zx, rowAt Zy, rowAt Zq, RefAt.cell rq⟩ ?_
        try simp only [Act.put, List.getElem_toArray, List.getElem_cons_zero, List.getElem_cons_succ, List.setIfInBounds_toArray, List.set_cons_zero, List.set_cons_succ]
        refine wpAnyH_take (i := 3) (v := .slice A n c) rfl (by kernel_rfl) (by kernel_rfl) (by kernel_rfl) (fun _ _ _ h => h) (Or.inl ⟨by rfl, fun w_ hS_ => by (first | (go_simp; done) | (go_simp; rfl))⟩) ⟨rowAt Zx, rowAt Zy, rowAt Zq, RefAt.cell rq⟩ ?_
        try simp only [Act.put, List.getElem_toArray, List.getElem_cons_zero, List.getElem_cons_succ, List.setIfInBounds_toArray, List.set_cons_zero, List.set_cons_succ]
        refine wpAnyH_take (i := 4) (v := .agg (x.cells).toArray) rfl (by kernel_rfl) (by kernel_rfl) (by kernel_rfl) (fun _ _ _ h => h) (yieldsIf_load_mid (by rfl) 37 _ rfl (w.heap.size) 0 rfl (x.cells) _ (fun _ h => h.1) Tryd.underlying37 rfl sizeCm) ⟨rowAt Zx, rowAt Zy, rowAt Zq, RefAt.cell rq⟩ ?_
        try simp only [Act.put, List.getElem_toArray, List.getElem_cons_zero, List.getElem_cons_succ, List.setIfInBounds_toArray, List.set_cons_zero, List.set_cons_succ]
        refine wpAnyH_ready (rs := [2]) (by kernel_rfl) (by simp) ?_
        refine AllReadyH.cons rfl (fun K hK => ?_) AllReadyH.nil
        rw [if_pos (by rfl)]
        go_simp
        go_wp2_with (go_at_call 29; refine (HPUT.out z11 ee).mono ?_; rintro e z12 ⟨v1, rfl, hs1, t, _⟩)
        have Zx := hpB Zx t
        have Zy := hpB Zy t
        have Zq := hpB Zq t
        have ee := ee.trans (t.mono ee.size)
        have e9 := e9.trans (t.mono e9.size)
        have rr := RdrAt.below rr t
        have rq := RefAt.below rq t
        clear t
        refine hK.out _ _ ⟨rowAt Zx, rowAt Zy, rowAt Zq, RefAt.cell rq⟩ (fun hH => ?_)
        clear hK K hH
        try simp only [Act.put, List.getElem_toArray, List.getElem_cons_zero, List.getElem_cons_succ, List.setIfInBounds_toArray, List.set_cons_zero, List.set_cons_succ]
        refine wpAnyH_ready (rs := [5]) (by kernel_rfl) (by simp) ?_
        refine AllReadyH.cons rfl (fun K hK => ?_) AllReadyH.nil
        rw [if_pos (by rfl)]
        go_simp
        go_wp2_with (go_at_call 40; refine (HRPUT.out z12 ee).mono ?_; rintro e z13 ⟨v2, rfl, hs2, t, _⟩)
        have Zx := hpB Zx t
        have Zy := hpB Zy t
        have Zq := hpB Zq t
        have ee := ee.trans (t.mono ee.size)
        have e9 := e9.trans (t.mono e9.size)
        have rr := RdrAt.below rr t
        have rq := RefAt.below rq t
        have hs1 := hs1.belowM t (Nat.le_refl _)
        clear t
        refine hK.out _ _ ⟨rowAt Zx, rowAt Zy, rowAt Zq, RefAt.cell rq⟩ (fun hH => ?_)
        clear hK K hH
        try simp only [Act.put, List.getElem_toArray, List.getElem_cons_zero, List.getElem_cons_succ, List.setIfInBounds_toArray, List.set_cons_zero, List.set_cons_succ]
        refine wpAnyH_ready (rs := [6]) (by kernel_rfl) (by simp) ?_
        refine AllReadyH.cons rfl (fun K hK => ?_) AllReadyH.nil
        rw [if_pos (by rfl)]
        go_simp
        go_wp2_with (go_at_call 30; refine (HSD.out z13 _ _ _ _ hs1 hs2).mono ?_; rintro e z14 ⟨rfl, t⟩)
        have Zx := hpB Zx t
        have Zy := hpB Zy t
        have Zq := hpB Zq t
        have ee := ee.trans (t.mono ee.size)
        have e9 := e9.trans (t.mono e9.size)
        have rr := RdrAt.below rr t
        have rq := RefAt.below rq t
        clear t
        refine hK.out _ _ ⟨rowAt Zx, rowAt Zy, rowAt Zq, RefAt.cell rq⟩ (fun hH => ?_)
        clear hK K hH
        try simp only [Act.put, List.getElem_toArray, List.getElem_cons_zero, List.getElem_cons_succ, List.setIfInBounds_toArray, List.set_cons_zero, List.set_cons_succ]
        refine wpAnyH_take (i := 7) (v := .bool true) rfl (by kernel_rfl) (by kernel_rfl) (by kernel_rfl) (fun _ _ _ h => h) (Or.inl ⟨by rfl, fun w_ hS_ => by (first | (go_simp; done) | (go_simp; rfl))⟩) ⟨rowAt Zx, rowAt Zy, rowAt Zq, RefAt.cell rq⟩ ?_
        try simp only [Act.put, List.getElem_toArray, List.getElem_cons_zero, List.getElem_cons_succ, List.setIfInBounds_toArray, List.set_cons_zero, List.set_cons_succ]
        refine wpAnyH_take (i := 8) (v := .agg ((y.cells)).toArray) rfl (by kernel_rfl) (by kernel_rfl) (by kernel_rfl) (fun _ _ _ h => h) (yieldsIf_load_mid (by rfl) 37 _ rfl (z6.heap.size) 0 rfl ((y.cells)) _ (fun _ h => h.2.1) Tryd.underlying37 rfl sizeCm) ⟨rowAt Zx, rowAt Zy, rowAt Zq, RefAt.cell rq⟩ ?_
        try simp only [Act.put, List.getElem_toArray, List.getElem_cons_zero, List.getElem_cons_succ, List.setIfInBounds_toArray, List.set_cons_zero, List.set_cons_succ]
        refine wpAnyH_take (i := 9) (v := .agg ((q.cells)).toArray) rfl (by kernel_rfl) (by kernel_rfl) (by kernel_rfl) (fun _ _ _ h => h) (yieldsIf_load_mid (by rfl) 41 _ rfl (z7.heap.size) 0 rfl ((q.cells)) _ (fun _ h => h.2.2.1) Tryd.underlying41 rfl sizeRCm) ⟨rowAt Zx, rowAt Zy, rowAt Zq, RefAt.cell rq⟩ ?_
        try simp only [Act.put, List.getElem_toArray, List.getElem_cons_zero, List.getElem_cons_succ, List.setIfInBounds_toArray, List.set_cons_zero, List.set_cons_succ]
        refine wpAnyH_ready (rs := [10]) (by kernel_rfl) (by simp) ?_
        refine AllReadyH.cons rfl (fun K hK => ?_) AllReadyH.nil
        rw [if_pos (by rfl)]
        go_simp
        go_wp2_with (go_at_call 16; refine (HSM.out z14 e9).mono ?_; rintro e z15 ⟨rfl, t⟩)
        have Zx := hpB Zx t
        have Zy := hpB Zy t
        have Zq := hpB Zq t
        have ee := ee.trans (t.mono ee.size)
        have e9 := e9.trans (t.mono e9.size)
        have rr := RdrAt.below rr t
        have rq := RefAt.below rq t
        clear t
        refine hK.out _ _ ⟨rowAt Zx, rowAt Zy, rowAt Zq, RefAt.cell rq⟩ (fun hH => ?_)
        clear hK K hH
        try simp only [Act.put, List.getElem_toArray, List.getElem_cons_zero, List.getElem_cons_succ, List.setIfInBounds_toArray, List.set_cons_zero, List.set_cons_succ]
        refine wpAnyH_take (i := 11) (v := .bool true) rfl (by kernel_rfl) (by kernel_rfl) (by kernel_rfl) (fun _ _ _ h => h) (Or.inl ⟨by rfl, fun w_ hS_ => by (first | (go_simp; done) | (go_simp; rfl))⟩) ⟨rowAt Zx, rowAt Zy, rowAt Zq, RefAt.cell rq⟩ ?_
        try simp only [Act.put, List.getElem_toArray, List.getElem_cons_zero, List.getElem_cons_succ, List.setIfInBounds_toArray, List.set_cons_zero, List.set_cons_succ]
        refine wpAnyH_take (i := 12) (v := .bool true) rfl (by kernel_rfl) (by kernel_rfl) (by kernel_rfl) (fun _ _ _ h => h) (Or.inl ⟨by rfl, fun w_ hS_ => by (first | (go_simp; done) | (go_simp; rfl))⟩) ⟨rowAt Zx, rowAt Zy, rowAt Zq, RefAt.cell rq⟩ ?_
        try simp only [Act.put, List.getElem_toArray, List.getElem_cons_zero, List.getElem_cons_succ, List.setIfInBounds_toArray, List.set_cons_zero, List.set_cons_succ]
        refine wpAnyH_take (i := 13) (v := .pointer (some ⟨g, 0, none⟩)) rfl (by kernel_rfl) (by kernel_rfl) (by kernel_rfl) (fun _ _ _ h => h) (Or.inl ⟨by rfl, fun w_ hS_ => by (first | (go_simp; done) | (go_simp; rfl))⟩) ⟨rowAt Zx, rowAt Zy, rowAt Zq, RefAt.cell rq⟩ ?_
        try simp only [Act.put, List.getElem_toArray, List.getElem_cons_zero, List.getElem_cons_succ, List.setIfInBounds_toArray, List.set_cons_zero, List.set_cons_succ]
        refine wpAnyH_take (i := 15) (v := .pointer (some ⟨h, 0, none⟩)) rfl (by kernel_rfl) (by kernel_rfl) (by kernel_rfl) (fun _ _ _ h => h) (Or.inl ⟨by rfl, fun w_ hS_ => by (first | (go_simp; done) | (go_simp; rfl))⟩) ⟨rowAt Zx, rowAt Zy, rowAt Zq, RefAt.cell rq⟩ ?_
        try simp only [Act.put, List.getElem_toArray, List.getElem_cons_zero, List.getElem_cons_succ, List.setIfInBounds_toArray, List.set_cons_zero, List.set_cons_succ]
        refine wpAnyH_take (i := 16) (v := .pointer (some ⟨h, 0, none⟩)) rfl (by kernel_rfl) (by kernel_rfl) (by kernel_rfl) (fun _ _ _ h => h) (Or.inl ⟨by rfl, fun w_ hS_ => by (first | (go_simp; done) | (go_simp; rfl))⟩) ⟨rowAt Zx, rowAt Zy, rowAt Zq, RefAt.cell rq⟩ ?_
        try simp only [Act.put, List.getElem_toArray, List.getElem_cons_zero, List.getElem_cons_succ, List.setIfInBounds_toArray, List.set_cons_zero, List.set_cons_succ]
        refine wpAnyH_take (i := 17) (v := .pointer (some ⟨h, 2, none⟩)) rfl (by kernel_rfl) (by kernel_rfl) (by kernel_rfl) (fun _ _ _ h => h) (Or.inl ⟨by rfl, fun w_ hS_ => by (first | (go_simp; done) | (go_simp; rfl))⟩) ⟨rowAt Zx, rowAt Zy, rowAt Zq, RefAt.cell rq⟩ ?_
        try simp only [Act.put, List.getElem_toArray, List.getElem_cons_zero, List.getElem_cons_succ, List.setIfInBounds_toArray, List.set_cons_zero, List.set_cons_succ]
        refine wpAnyH_take (i := 18) (v := .bool true) rfl (by kernel_rfl) (by kernel_rfl) (by kernel_rfl) (fun _ _ _ h => h) (Or.inl ⟨by rfl, fun w_ hS_ => by have c_ := hS_.2.2.2; go_simp⟩) ⟨rowAt Zx, rowAt Zy, rowAt Zq, RefAt.cell rq⟩ ?_
        try simp only [Act.put, List.getElem_toArray, List.getElem_cons_zero, List.getElem_cons_succ, List.setIfInBounds_toArray, List.set_cons_zero, List.set_cons_succ]
        refine wpAnyH_take (i := 19) (v := .bool false) rfl (by kernel_rfl) (by kernel_rfl) (by kernel_rfl) (fun _ _ _ h => h) (Or.inl ⟨by rfl, fun w_ hS_ => by (first | (go_simp; done) | (go_simp; rfl))⟩) ⟨rowAt Zx, rowAt Zy, rowAt Zq, RefAt.cell rq⟩ ?_
        try simp only [Act.put, List.getElem_toArray, List.getElem_cons_zero, List.getElem_cons_succ, List.setIfInBounds_toArray, List.set_cons_zero, List.set_cons_succ]
        refine wpAnyH_ready (rs := [14]) (by kernel_rfl) (by simp) ?_
        refine AllReadyH.cons rfl (fun K hK => ?_) AllReadyH.nil
        rw [if_pos (by rfl)]
        go_simp
        go_wp2_with (go_at_call 37; refine (ok_any w.heap.size g _ z15 rr).mono ?_; rintro e z16 ⟨rfl, hw_⟩; rw [← hw_]; clear hw_ z16)
        refine hK.out _ _ ⟨rowAt Zx, rowAt Zy, rowAt Zq, RefAt.cell rq⟩ (fun hH => ?_)
        clear hK K hH
        try simp only [Act.put, List.getElem_toArray, List.getElem_cons_zero, List.getElem_cons_succ, List.setIfInBounds_toArray, List.set_cons_zero, List.set_cons_succ]
        refine wpAnyH_take (i := 20) (v := .bool true) rfl (by kernel_rfl) (by kernel_rfl) (by kernel_rfl) (fun _ _ _ h => h) (Or.inl ⟨by rfl, fun w_ hS_ => by (first | (go_simp; done) | (go_simp; rfl))⟩) ⟨rowAt Zx, rowAt Zy, rowAt Zq, RefAt.cell rq⟩ ?_
        try simp only [Act.put, List.getElem_toArray, List.getElem_cons_zero, List.getElem_cons_succ, List.setIfInBounds_toArray, List.set_cons_zero, List.set_cons_succ]
        refine wpAnyH_take (i := 21) (v := .bool true) rfl (by kernel_rfl) (by kernel_rfl) (by kernel_rfl) (fun _ _ _ h => h) (Or.inl ⟨by rfl, fun w_ hS_ => by (first | (go_simp; done) | (go_simp; rfl))⟩) ⟨rowAt Zx, rowAt Zy, rowAt Zq, RefAt.cell rq⟩ ?_
        try simp only [Act.put, List.getElem_toArray, List.getElem_cons_zero, List.getElem_cons_succ, List.setIfInBounds_toArray, List.set_cons_zero, List.set_cons_succ]
        refine wpAnyH_take (i := 22) (v := .bool true) rfl (by kernel_rfl) (by kernel_rfl) (by kernel_rfl) (fun _ _ _ h => h) (Or.inl ⟨by rfl, fun w_ hS_ => by (first | (go_simp; done) | (go_simp; rfl))⟩) ⟨rowAt Zx, rowAt Zy, rowAt Zq, RefAt.cell rq⟩ ?_
        try simp only [Act.put, List.getElem_toArray, List.getElem_cons_zero, List.getElem_cons_succ, List.setIfInBounds_toArray, List.set_cons_zero, List.set_cons_succ]
        refine wpAnyH_take (i := 23) (v := .pointer (some ⟨g, 0, none⟩)) rfl (by kernel_rfl) (by kernel_rfl) (by kernel_rfl) (fun _ _ _ h => h) (Or.inl ⟨by rfl, fun w_ hS_ => by (first | (go_simp; done) | (go_simp; rfl))⟩) ⟨rowAt Zx, rowAt Zy, rowAt Zq, RefAt.cell rq⟩ ?_
        try simp only [Act.put, List.getElem_toArray, List.getElem_cons_zero, List.getElem_cons_succ, List.setIfInBounds_toArray, List.set_cons_zero, List.set_cons_succ]
        refine wpAnyH_take (i := 25) (v := .pointer (some ⟨h, 0, none⟩)) rfl (by kernel_rfl) (by kernel_rfl) (by kernel_rfl) (fun _ _ _ h => h) (Or.inl ⟨by rfl, fun w_ hS_ => by (first | (go_simp; done) | (go_simp; rfl))⟩) ⟨rowAt Zx, rowAt Zy, rowAt Zq, RefAt.cell rq⟩ ?_
        try simp only [Act.put, List.getElem_toArray, List.getElem_cons_zero, List.getElem_cons_succ, List.setIfInBounds_toArray, List.set_cons_zero, List.set_cons_succ]
        refine wpAnyH_ready (rs := [24]) (by kernel_rfl) (by simp) ?_
        refine AllReadyH.cons rfl (fun K hK => ?_) AllReadyH.nil
        rw [if_pos (by rfl)]
        go_simp
        go_wp2_with (go_at_call 41; refine (HL1.out z15 rr).mono ?_; rintro e z17 ⟨rfl, hw_⟩; rw [← hw_]; clear hw_ z17)
        refine hK.out _ _ ⟨rowAt Zx, rowAt Zy, rowAt Zq, RefAt.cell rq⟩ (fun hH => ?_)
        clear hK K hH
        try simp only [Act.put, List.getElem_toArray, List.getElem_cons_zero, List.getElem_cons_succ, List.setIfInBounds_toArray, List.set_cons_zero, List.set_cons_succ]
        refine wpAnyH_ready (rs := [26]) (by kernel_rfl) (by simp) ?_
        refine AllReadyH.cons rfl (fun K hK => ?_) AllReadyH.nil
        rw [if_pos (by rfl)]
        go_simp
        go_wp2_with (go_at_call 42; refine (HL2.out z15 rq).mono ?_; rintro e z18 ⟨rfl, n_, rfl⟩)
        have ee := belowDrewN ee n_
        have e9 := belowDrewN e9 n_
        refine hK.out _ _ ⟨rowAt Zx, rowAt Zy, rowAt Zq, RefAt.cell rq⟩ (fun hH => ?_)
        clear hK K hH
        try simp only [Act.put, List.getElem_toArray, List.getElem_cons_zero, List.getElem_cons_succ, List.setIfInBounds_toArray, List.set_cons_zero, List.set_cons_succ]
        refine wpAnyH_take (i := 27) (v := .bool true) rfl (by kernel_rfl) (by kernel_rfl) (by kernel_rfl) (fun _ _ _ h => h) (Or.inl ⟨by rfl, fun w_ hS_ => by (first | (go_simp; done) | (go_simp; rfl))⟩) ⟨rowAt Zx, rowAt Zy, rowAt Zq, RefAt.cell rq⟩ ?_
        try simp only [Act.put, List.getElem_toArray, List.getElem_cons_zero, List.getElem_cons_succ, List.setIfInBounds_toArray, List.set_cons_zero, List.set_cons_succ]
        refine wpAnyH_take (i := 28) (v := .bool true) rfl (by kernel_rfl) (by kernel_rfl) (by kernel_rfl) (fun _ _ _ h => h) (Or.inl ⟨by rfl, fun w_ hS_ => by (first | (go_simp; done) | (go_simp; rfl))⟩) ⟨rowAt Zx, rowAt Zy, rowAt Zq, RefAt.cell rq⟩ ?_
        try simp only [Act.put, List.getElem_toArray, List.getElem_cons_zero, List.getElem_cons_succ, List.setIfInBounds_toArray, List.set_cons_zero, List.set_cons_succ]
        refine wpAnyH_take (i := 29) (v := .bool true) rfl (by kernel_rfl) (by kernel_rfl) (by kernel_rfl) (fun _ _ _ h => h) (Or.inl ⟨by rfl, fun w_ hS_ => by (first | (go_simp; done) | (go_simp; rfl))⟩) ⟨rowAt Zx, rowAt Zy, rowAt Zq, RefAt.cell rq⟩ ?_
        try simp only [Act.put, List.getElem_toArray, List.getElem_cons_zero, List.getElem_cons_succ, List.setIfInBounds_toArray, List.set_cons_zero, List.set_cons_succ]
        refine wpAnyH_done (by kernel_rfl) ?_ _
        go_wp2_with fail
        go_ret
        exact ⟨rfl, ee⟩
      | false =>
        have Zx : z10.drew.heap[w.heap.size]? = some (.cells x.cells.toArray 37) := Zx
        have Zy : z10.drew.heap[z6.heap.size]? = some (.cells (y.cells).toArray 37) := Zy
        have Zq : z10.drew.heap[z7.heap.size]? = some (.cells (q.cells).toArray 41) := Zq
        have ee := belowDrewS ee
        have e9 := belowDrewS e9
        refine wp_region_held_drew (S := fun z' => z'.rangeAt w.heap.size 0 x.cells ∧ z'.rangeAt (z6.heap.size) 0 y.cells ∧ z'.rangeAt (z7.heap.size) 0 q.cells ∧ z'.cell? ⟨h, 2, none⟩ = some (.bool false)) (by kernel_rfl) ⟨rowAt Zx, rowAt Zy, rowAt Zq, RefAt.cell rq⟩ (fun hH => ?_)
        clear hH
        generalize z10.drew = z11 at Zx Zy Zq rr rq ee e9 ⊢
        refine wpAnyH_take (i := 0) (v := .slice A n c) rfl (by kernel_rfl) (by kernel_rfl) (by kernel_rfl) (fun _ _ _ h => h) (Or.inl ⟨by rfl, fun w_ hS_ => by (first | (go_simp; done) | (go_simp; rfl))⟩) ⟨rowAt Zx, rowAt Zy, rowAt Zq, RefAt.cell rq⟩ ?_
        try simp only [Act.put, List.getElem_toArray, List.getElem_cons_zero, List.getElem_cons_succ, List.setIfInBounds_toArray, List.set_cons_zero, List.set_cons_succ]
        refine wpAnyH_take (i := 1) (v := .agg (x.cells).toArray) rfl (by kernel_rfl) (by kernel_rfl) (by kernel_rfl) (fun _ _ _ h => h) (yieldsIf_load_mid (by rfl) 37 _ rfl (w.heap.size) 0 rfl (x.cells) _ (fun _ h => h.1) Tryd.underlying37 rfl sizeCm) ⟨rowAt Zx, rowAt Zy, rowAt Zq, RefAt.cell rq⟩ ?_
        try simp only [Act.put, List.getElem_toArray, List.getElem_cons_zero, List.getElem_cons_succ, List.setIfInBounds_toArray, List.set_cons_zero, List.set_cons_succ]
        refine wpAnyH_take (i := 3) (v := .slice A n c) rfl (by kernel_rfl) (by kernel_rfl) (by kernel_rfl) (fun _ _ _ h => h) (Or.inl ⟨by rfl, fun w_ hS_ => by (first | (go_simp; done) | (go_simp; rfl))⟩) ⟨rowAt Zx, rowAt Zy, rowAt Zq, RefAt.cell rq⟩ ?_
        try simp only [Act.put, List.getElem_toArray, List.getElem_cons_zero, List.getElem_cons_succ, List.setIfInBounds_toArray, List.set_cons_zero, List.set_cons_succ]
        refine wpAnyH_take (i := 4) (v := .agg (x.cells).toArray) rfl (by kernel_rfl) (by kernel_rfl) (by kernel_rfl) (fun _ _ _ h => h) (yieldsIf_load_mid (by rfl) 37 _ rfl (w.heap.size) 0 rfl (x.cells) _ (fun _ h => h.1) Tryd.underlying37 rfl sizeCm) ⟨rowAt Zx, rowAt Zy, rowAt Zq, RefAt.cell rq⟩ ?_
        try simp only [Act.put, List.getElem_toArray, List.getElem_cons_zero, List.getElem_cons_succ, List.setIfInBounds_toArray, List.set_cons_zero, List.set_cons_succ]
        refine wpAnyH_ready (rs := [2]) (by kernel_rfl) (by simp) ?_
        refine AllReadyH.cons rfl (fun K hK => ?_) AllReadyH.nil
        rw [if_pos (by rfl)]
        go_simp
        go_wp2_with (go_at_call 29; refine (HPUT.out z11 ee).mono ?_; rintro e z12 ⟨v1, rfl, hs1, t, _⟩)
        have Zx := hpB Zx t
        have Zy := hpB Zy t
        have Zq := hpB Zq t
        have ee := ee.trans (t.mono ee.size)
        have e9 := e9.trans (t.mono e9.size)
        have rr := RdrAt.below rr t
        have rq := RefAt.below rq t
        clear t
        refine hK.out _ _ ⟨rowAt Zx, rowAt Zy, rowAt Zq, RefAt.cell rq⟩ (fun hH => ?_)
        clear hK K hH
        try simp only [Act.put, List.getElem_toArray, List.getElem_cons_zero, List.getElem_cons_succ, List.setIfInBounds_toArray, List.set_cons_zero, List.set_cons_succ]
        refine wpAnyH_ready (rs := [5]) (by kernel_rfl) (by simp) ?_
        refine AllReadyH.cons rfl (fun K hK => ?_) AllReadyH.nil
        rw [if_pos (by rfl)]
        go_simp
        go_wp2_with (go_at_call 40; refine (HRPUT.out z12 ee).mono ?_; rintro e z13 ⟨v2, rfl, hs2, t, _⟩)
        have Zx := hpB Zx t
        have Zy := hpB Zy t
        have Zq := hpB Zq t
        have ee := ee.trans (t.mono ee.size)
        have e9 := e9.trans (t.mono e9.size)
        have rr := RdrAt.below rr t
        have rq := RefAt.below rq t
        have hs1 := hs1.belowM t (Nat.le_refl _)
        clear t
        refine hK.out _ _ ⟨rowAt Zx, rowAt Zy, rowAt Zq, RefAt.cell rq⟩ (fun hH => ?_)
        clear hK K hH
        try simp only [Act.put, List.getElem_toArray, List.getElem_cons_zero, List.getElem_cons_succ, List.setIfInBounds_toArray, List.set_cons_zero, List.set_cons_succ]
        refine wpAnyH_ready (rs := [6]) (by kernel_rfl) (by simp) ?_
        refine AllReadyH.cons rfl (fun K hK => ?_) AllReadyH.nil
        rw [if_pos (by rfl)]
        go_simp
        go_wp2_with (go_at_call 30; refine (HSD.out z13 _ _ _ _ hs1 hs2).mono ?_; rintro e z14 ⟨rfl, t⟩)
        have Zx := hpB Zx t
        have Zy := hpB Zy t
        have Zq := hpB Zq t
        have ee := ee.trans (t.mono ee.size)
        have e9 := e9.trans (t.mono e9.size)
        have rr := RdrAt.below rr t
        have rq := RefAt.below rq t
        clear t
        refine hK.out _ _ ⟨rowAt Zx, rowAt Zy, rowAt Zq, RefAt.cell rq⟩ (fun hH => ?_)
        clear hK K hH
        try simp only [Act.put, List.getElem_toArray, List.getElem_cons_zero, List.getElem_cons_succ, List.setIfInBounds_toArray, List.set_cons_zero, List.set_cons_succ]
        refine wpAnyH_take (i := 7) (v := .bool true) rfl (by kernel_rfl) (by kernel_rfl) (by kernel_rfl) (fun _ _ _ h => h) (Or.inl ⟨by rfl, fun w_ hS_ => by (first | (go_simp; done) | (go_simp; rfl))⟩) ⟨rowAt Zx, rowAt Zy, rowAt Zq, RefAt.cell rq⟩ ?_
        try simp only [Act.put, List.getElem_toArray, List.getElem_cons_zero, List.getElem_cons_succ, List.setIfInBounds_toArray, List.set_cons_zero, List.set_cons_succ]
        refine wpAnyH_take (i := 8) (v := .agg ((y.cells)).toArray) rfl (by kernel_rfl) (by kernel_rfl) (by kernel_rfl) (fun _ _ _ h => h) (yieldsIf_load_mid (by rfl) 37 _ rfl (z6.heap.size) 0 rfl ((y.cells)) _ (fun _ h => h.2.1) Tryd.underlying37 rfl sizeCm) ⟨rowAt Zx, rowAt Zy, rowAt Zq, RefAt.cell rq⟩ ?_
        try simp only [Act.put, List.getElem_toArray, List.getElem_cons_zero, List.getElem_cons_succ, List.setIfInBounds_toArray, List.set_cons_zero, List.set_cons_succ]
        refine wpAnyH_take (i := 9) (v := .agg ((q.cells)).toArray) rfl (by kernel_rfl) (by kernel_rfl) (by kernel_rfl) (fun _ _ _ h => h) (yieldsIf_load_mid (by rfl) 41 _ rfl (z7.heap.size) 0 rfl ((q.cells)) _ (fun _ h => h.2.2.1) Tryd.underlying41 rfl sizeRCm) ⟨rowAt Zx, rowAt Zy, rowAt Zq, RefAt.cell rq⟩ ?_
        try simp only [Act.put, List.getElem_toArray, List.getElem_cons_zero, List.getElem_cons_succ, List.setIfInBounds_toArray, List.set_cons_zero, List.set_cons_succ]
        refine wpAnyH_ready (rs := [10]) (by kernel_rfl) (by simp) ?_
        refine AllReadyH.cons rfl (fun K hK => ?_) AllReadyH.nil
        rw [if_pos (by rfl)]
        go_simp
        go_wp2_with (go_at_call 16; refine (HSM.out z14 e9).mono ?_; rintro e z15 ⟨rfl, t⟩)
        have Zx := hpB Zx t
        have Zy := hpB Zy t
        have Zq := hpB Zq t
        have ee := ee.trans (t.mono ee.size)
        have e9 := e9.trans (t.mono e9.size)
        have rr := RdrAt.below rr t
        have rq := RefAt.below rq t
        clear t
        refine hK.out _ _ ⟨rowAt Zx, rowAt Zy, rowAt Zq, RefAt.cell rq⟩ (fun hH => ?_)
        clear hK K hH
        try simp only [Act.put, List.getElem_toArray, List.getElem_cons_zero, List.getElem_cons_succ, List.setIfInBounds_toArray, List.set_cons_zero, List.set_cons_succ]
        refine wpAnyH_take (i := 11) (v := .bool true) rfl (by kernel_rfl) (by kernel_rfl) (by kernel_rfl) (fun _ _ _ h => h) (Or.inl ⟨by rfl, fun w_ hS_ => by (first | (go_simp; done) | (go_simp; rfl))⟩) ⟨rowAt Zx, rowAt Zy, rowAt Zq, RefAt.cell rq⟩ ?_
        try simp only [Act.put, List.getElem_toArray, List.getElem_cons_zero, List.getElem_cons_succ, List.setIfInBounds_toArray, List.set_cons_zero, List.set_cons_succ]
        refine wpAnyH_take (i := 12) (v := .bool true) rfl (by kernel_rfl) (by kernel_rfl) (by kernel_rfl) (fun _ _ _ h => h) (Or.inl ⟨by rfl, fun w_ hS_ => by (first | (go_simp; done) | (go_simp; rfl))⟩) ⟨rowAt Zx, rowAt Zy, rowAt Zq, RefAt.cell rq⟩ ?_
        try simp only [Act.put, List.getElem_toArray, List.getElem_cons_zero, List.getElem_cons_succ, List.setIfInBounds_toArray, List.set_cons_zero, List.set_cons_succ]
        refine wpAnyH_take (i := 13) (v := .pointer (some ⟨g, 0, none⟩)) rfl (by kernel_rfl) (by kernel_rfl) (by kernel_rfl) (fun _ _ _ h => h) (Or.inl ⟨by rfl, fun w_ hS_ => by (first | (go_simp; done) | (go_simp; rfl))⟩) ⟨rowAt Zx, rowAt Zy, rowAt Zq, RefAt.cell rq⟩ ?_
        try simp only [Act.put, List.getElem_toArray, List.getElem_cons_zero, List.getElem_cons_succ, List.setIfInBounds_toArray, List.set_cons_zero, List.set_cons_succ]
        refine wpAnyH_take (i := 15) (v := .pointer (some ⟨h, 0, none⟩)) rfl (by kernel_rfl) (by kernel_rfl) (by kernel_rfl) (fun _ _ _ h => h) (Or.inl ⟨by rfl, fun w_ hS_ => by (first | (go_simp; done) | (go_simp; rfl))⟩) ⟨rowAt Zx, rowAt Zy, rowAt Zq, RefAt.cell rq⟩ ?_
        try simp only [Act.put, List.getElem_toArray, List.getElem_cons_zero, List.getElem_cons_succ, List.setIfInBounds_toArray, List.set_cons_zero, List.set_cons_succ]
        refine wpAnyH_take (i := 16) (v := .pointer (some ⟨h, 0, none⟩)) rfl (by kernel_rfl) (by kernel_rfl) (by kernel_rfl) (fun _ _ _ h => h) (Or.inl ⟨by rfl, fun w_ hS_ => by (first | (go_simp; done) | (go_simp; rfl))⟩) ⟨rowAt Zx, rowAt Zy, rowAt Zq, RefAt.cell rq⟩ ?_
        try simp only [Act.put, List.getElem_toArray, List.getElem_cons_zero, List.getElem_cons_succ, List.setIfInBounds_toArray, List.set_cons_zero, List.set_cons_succ]
        refine wpAnyH_take (i := 17) (v := .pointer (some ⟨h, 2, none⟩)) rfl (by kernel_rfl) (by kernel_rfl) (by kernel_rfl) (fun _ _ _ h => h) (Or.inl ⟨by rfl, fun w_ hS_ => by (first | (go_simp; done) | (go_simp; rfl))⟩) ⟨rowAt Zx, rowAt Zy, rowAt Zq, RefAt.cell rq⟩ ?_
        try simp only [Act.put, List.getElem_toArray, List.getElem_cons_zero, List.getElem_cons_succ, List.setIfInBounds_toArray, List.set_cons_zero, List.set_cons_succ]
        refine wpAnyH_take (i := 18) (v := .bool false) rfl (by kernel_rfl) (by kernel_rfl) (by kernel_rfl) (fun _ _ _ h => h) (Or.inl ⟨by rfl, fun w_ hS_ => by have c_ := hS_.2.2.2; go_simp⟩) ⟨rowAt Zx, rowAt Zy, rowAt Zq, RefAt.cell rq⟩ ?_
        try simp only [Act.put, List.getElem_toArray, List.getElem_cons_zero, List.getElem_cons_succ, List.setIfInBounds_toArray, List.set_cons_zero, List.set_cons_succ]
        refine wpAnyH_take (i := 19) (v := .bool true) rfl (by kernel_rfl) (by kernel_rfl) (by kernel_rfl) (fun _ _ _ h => h) (Or.inl ⟨by rfl, fun w_ hS_ => by (first | (go_simp; done) | (go_simp; rfl))⟩) ⟨rowAt Zx, rowAt Zy, rowAt Zq, RefAt.cell rq⟩ ?_
        try simp only [Act.put, List.getElem_toArray, List.getElem_cons_zero, List.getElem_cons_succ, List.setIfInBounds_toArray, List.set_cons_zero, List.set_cons_succ]
        refine wpAnyH_ready (rs := [14]) (by kernel_rfl) (by simp) ?_
        refine AllReadyH.cons rfl (fun K hK => ?_) AllReadyH.nil
        rw [if_pos (by rfl)]
        go_simp
        go_wp2_with (go_at_call 37; refine (ok_any w.heap.size g _ z15 rr).mono ?_; rintro e z16 ⟨rfl, hw_⟩; rw [← hw_]; clear hw_ z16)
        refine hK.out _ _ ⟨rowAt Zx, rowAt Zy, rowAt Zq, RefAt.cell rq⟩ (fun hH => ?_)
        clear hK K hH
        try simp only [Act.put, List.getElem_toArray, List.getElem_cons_zero, List.getElem_cons_succ, List.setIfInBounds_toArray, List.set_cons_zero, List.set_cons_succ]
        refine wpAnyH_take (i := 20) (v := .bool true) rfl (by kernel_rfl) (by kernel_rfl) (by kernel_rfl) (fun _ _ _ h => h) (Or.inl ⟨by rfl, fun w_ hS_ => by (first | (go_simp; done) | (go_simp; rfl))⟩) ⟨rowAt Zx, rowAt Zy, rowAt Zq, RefAt.cell rq⟩ ?_
        try simp only [Act.put, List.getElem_toArray, List.getElem_cons_zero, List.getElem_cons_succ, List.setIfInBounds_toArray, List.set_cons_zero, List.set_cons_succ]
        refine wpAnyH_take (i := 21) (v := .bool true) rfl (by kernel_rfl) (by kernel_rfl) (by kernel_rfl) (fun _ _ _ h => h) (Or.inl ⟨by rfl, fun w_ hS_ => by (first | (go_simp; done) | (go_simp; rfl))⟩) ⟨rowAt Zx, rowAt Zy, rowAt Zq, RefAt.cell rq⟩ ?_
        try simp only [Act.put, List.getElem_toArray, List.getElem_cons_zero, List.getElem_cons_succ, List.setIfInBounds_toArray, List.set_cons_zero, List.set_cons_succ]
        refine wpAnyH_take (i := 22) (v := .bool true) rfl (by kernel_rfl) (by kernel_rfl) (by kernel_rfl) (fun _ _ _ h => h) (Or.inl ⟨by rfl, fun w_ hS_ => by (first | (go_simp; done) | (go_simp; rfl))⟩) ⟨rowAt Zx, rowAt Zy, rowAt Zq, RefAt.cell rq⟩ ?_
        try simp only [Act.put, List.getElem_toArray, List.getElem_cons_zero, List.getElem_cons_succ, List.setIfInBounds_toArray, List.set_cons_zero, List.set_cons_succ]
        refine wpAnyH_take (i := 23) (v := .pointer (some ⟨g, 0, none⟩)) rfl (by kernel_rfl) (by kernel_rfl) (by kernel_rfl) (fun _ _ _ h => h) (Or.inl ⟨by rfl, fun w_ hS_ => by (first | (go_simp; done) | (go_simp; rfl))⟩) ⟨rowAt Zx, rowAt Zy, rowAt Zq, RefAt.cell rq⟩ ?_
        try simp only [Act.put, List.getElem_toArray, List.getElem_cons_zero, List.getElem_cons_succ, List.setIfInBounds_toArray, List.set_cons_zero, List.set_cons_succ]
        refine wpAnyH_take (i := 25) (v := .pointer (some ⟨h, 0, none⟩)) rfl (by kernel_rfl) (by kernel_rfl) (by kernel_rfl) (fun _ _ _ h => h) (Or.inl ⟨by rfl, fun w_ hS_ => by (first | (go_simp; done) | (go_simp; rfl))⟩) ⟨rowAt Zx, rowAt Zy, rowAt Zq, RefAt.cell rq⟩ ?_
        try simp only [Act.put, List.getElem_toArray, List.getElem_cons_zero, List.getElem_cons_succ, List.setIfInBounds_toArray, List.set_cons_zero, List.set_cons_succ]
        refine wpAnyH_ready (rs := [24]) (by kernel_rfl) (by simp) ?_
        refine AllReadyH.cons rfl (fun K hK => ?_) AllReadyH.nil
        rw [if_pos (by rfl)]
        go_simp
        go_wp2_with (go_at_call 41; refine (HL1.out z15 rr).mono ?_; rintro e z17 ⟨rfl, hw_⟩; rw [← hw_]; clear hw_ z17)
        refine hK.out _ _ ⟨rowAt Zx, rowAt Zy, rowAt Zq, RefAt.cell rq⟩ (fun hH => ?_)
        clear hK K hH
        try simp only [Act.put, List.getElem_toArray, List.getElem_cons_zero, List.getElem_cons_succ, List.setIfInBounds_toArray, List.set_cons_zero, List.set_cons_succ]
        refine wpAnyH_ready (rs := [26]) (by kernel_rfl) (by simp) ?_
        refine AllReadyH.cons rfl (fun K hK => ?_) AllReadyH.nil
        rw [if_pos (by rfl)]
        go_simp
        go_wp2_with (go_at_call 42; refine (HL2.out z15 rq).mono ?_; rintro e z18 ⟨rfl, n_, rfl⟩)
        have ee := belowDrewN ee n_
        have e9 := belowDrewN e9 n_
        refine hK.out _ _ ⟨rowAt Zx, rowAt Zy, rowAt Zq, RefAt.cell rq⟩ (fun hH => ?_)
        clear hK K hH
        try simp only [Act.put, List.getElem_toArray, List.getElem_cons_zero, List.getElem_cons_succ, List.setIfInBounds_toArray, List.set_cons_zero, List.set_cons_succ]
        refine wpAnyH_take (i := 27) (v := .bool true) rfl (by kernel_rfl) (by kernel_rfl) (by kernel_rfl) (fun _ _ _ h => h) (Or.inl ⟨by rfl, fun w_ hS_ => by (first | (go_simp; done) | (go_simp; rfl))⟩) ⟨rowAt Zx, rowAt Zy, rowAt Zq, RefAt.cell rq⟩ ?_
        try simp only [Act.put, List.getElem_toArray, List.getElem_cons_zero, List.getElem_cons_succ, List.setIfInBounds_toArray, List.set_cons_zero, List.set_cons_succ]
        refine wpAnyH_take (i := 28) (v := .bool true) rfl (by kernel_rfl) (by kernel_rfl) (by kernel_rfl) (fun _ _ _ h => h) (Or.inl ⟨by rfl, fun w_ hS_ => by (first | (go_simp; done) | (go_simp; rfl))⟩) ⟨rowAt Zx, rowAt Zy, rowAt Zq, RefAt.cell rq⟩ ?_
        try simp only [Act.put, List.getElem_toArray, List.getElem_cons_zero, List.getElem_cons_succ, List.setIfInBounds_toArray, List.set_cons_zero, List.set_cons_succ]
        refine wpAnyH_take (i := 29) (v := .bool true) rfl (by kernel_rfl) (by kernel_rfl) (by kernel_rfl) (fun _ _ _ h => h) (Or.inl ⟨by rfl, fun w_ hS_ => by (first | (go_simp; done) | (go_simp; rfl))⟩) ⟨rowAt Zx, rowAt Zy, rowAt Zq, RefAt.cell rq⟩ ?_
        try simp only [Act.put, List.getElem_toArray, List.getElem_cons_zero, List.getElem_cons_succ, List.setIfInBounds_toArray, List.set_cons_zero, List.set_cons_succ]
        refine wpAnyH_done (by kernel_rfl) ?_ _
        go_wp2_with fail
        go_ret
        exact ⟨rfl, ee⟩
theorem commandBytes_walk (W : World) (hT : Tabs W) (v0 v1 : Value) (h0 : Arg W 37 v0) (h1 : Arg W 69 v1) :
    Calls Tryd.prog 10 #[v0, v1] W fun e W' => e = .returned (.bool true) ∧ Below W.heap.size W W' := by
  obtain ⟨x, rfl, hx⟩ := h0.cm
  obtain ⟨A, c, l, rfl, hc, hm, hA, hl⟩ := h1.bytes Tryd.underlying69
  exact cbytes_mid x A c l W hx hc hm hA hl hT
end Go.Proofs.YtkfnepmiigkdfaaDoor
