/- The walks of the reference's may and Prepare of acceptors. Conditions: what lies, lies below. (Printed by gen_accc.py.) -/
import Derived.Test.YtbahooohkigcnaaDoorAccB
namespace Go.Proofs.YtbahooohkigcnaaDoor
set_option maxRecDepth 20000
open Go.RowKit T
set_option linter.unusedSimpArgs false
set_option linter.unusedVariables false

theorem info16r : (Tryd.prog.info? 43).map (·.size) = some 16 := by kernel_rfl
set_option maxRecDepth 20000 in
set_option maxHeartbeats 6400000 in
theorem rmay_any (pr : Nat) (pn sl : Int) (ha : Bool) (vr : Nat) (vn : Int) (k s q : Int) (rs : List Rd1) (ws : List Wr1) (A1 : Option Addr) (c1 : Nat) (A2 : Option Addr) (c2 : Nat) (i j g : Int) (st : Nat) (y : Bool) (br : Nat) (bn : Int) (w : World) (B0 : Nat) (hB : B0 ≤ w.heap.size) (ok : TxOk w B0 rs ws A1 c1 A2 c2) :
    Calls Tryd.prog 103 #[.agg #[.int .u32 (pr : Int), .int .i64 pn, .int .i64 sl, .bool ha, .int .u32 (vr : Int), .int .i64 vn, .int .i64 k, .int .i64 s, .int .i64 q, .slice A1 rs.length c1, .slice A2 ws.length c2, .int .i64 i, .int .i64 j, .int .i64 g, .int .u64 (st : Int), .bool y], .agg #[.int .u32 (br : Int), .int .i64 bn]] w fun e w' => e = .returned (.bool (T.may pr pn sl ha vr vn k s q rs ws i j g st y br bn)) ∧ Below w.heap.size w w' := by
  obtain ⟨p, hp⟩ : ∃ p : Bool, p = T.may pr pn sl ha vr vn k s q rs ws i j g st y br bn := ⟨_, rfl⟩
  rw [← hp]
  obtain ⟨w0, hw0⟩ : ∃ w0, w0 = (w.alloc (.cells #[.int .u32 (pr : Int), .int .i64 pn, .int .i64 sl, .bool ha, .int .u32 (vr : Int), .int .i64 vn, .int .i64 k, .int .i64 s, .int .i64 q, .slice A1 rs.length c1, .slice A2 ws.length c2, .int .i64 i, .int .i64 j, .int .i64 g, .int .u64 (st : Int), .bool y] 43)).alloc (.cells #[.int .u32 (br : Int), .int .i64 bn] 40) := ⟨_, rfl⟩
  have g0 : Below w.heap.size w w0 := by rw [hw0]; exact ((Below.refl _ _).alloc (Nat.le_refl _) _).alloc (by simp) _
  obtain ⟨a0, a1, a2, a3, a4, a5, a6, a7, a8, a9, a10, a11, a12, a13, a14, a15, b0, b1⟩ : w0.cell? ⟨w.heap.size, 0, none⟩ = some (.int .u32 (pr : Int)) ∧ w0.cell? ⟨w.heap.size, 1, none⟩ = some (.int .i64 pn) ∧ w0.cell? ⟨w.heap.size, 2, none⟩ = some (.int .i64 sl) ∧ w0.cell? ⟨w.heap.size, 3, none⟩ = some (.bool ha) ∧ w0.cell? ⟨w.heap.size, 4, none⟩ = some (.int .u32 (vr : Int)) ∧ w0.cell? ⟨w.heap.size, 5, none⟩ = some (.int .i64 vn) ∧ w0.cell? ⟨w.heap.size, 6, none⟩ = some (.int .i64 k) ∧ w0.cell? ⟨w.heap.size, 7, none⟩ = some (.int .i64 s) ∧ w0.cell? ⟨w.heap.size, 8, none⟩ = some (.int .i64 q) ∧ w0.cell? ⟨w.heap.size, 9, none⟩ = some (.slice A1 rs.length c1) ∧ w0.cell? ⟨w.heap.size, 10, none⟩ = some (.slice A2 ws.length c2) ∧ w0.cell? ⟨w.heap.size, 11, none⟩ = some (.int .i64 i) ∧ w0.cell? ⟨w.heap.size, 12, none⟩ = some (.int .i64 j) ∧ w0.cell? ⟨w.heap.size, 13, none⟩ = some (.int .i64 g) ∧ w0.cell? ⟨w.heap.size, 14, none⟩ = some (.int .u64 (st : Int)) ∧ w0.cell? ⟨w.heap.size, 15, none⟩ = some (.bool y) ∧ w0.cell? ⟨w.heap.size + 1, 0, none⟩ = some (.int .u32 (br : Int)) ∧ w0.cell? ⟨w.heap.size + 1, 1, none⟩ = some (.int .i64 bn) := by
    rw [hw0]; exact ⟨cellA _ (by simp), cellA _ (by simp), cellA _ (by simp), cellA _ (by simp), cellA _ (by simp), cellA _ (by simp), cellA _ (by simp), cellA _ (by simp), cellA _ (by simp), cellA _ (by simp), cellA _ (by simp), cellA _ (by simp), cellA _ (by simp), cellA _ (by simp), cellA _ (by simp), cellA _ (by simp), by simp, by simp⟩
  have gB := g0.size
  have HA := Lib.hid (raformed_any pr pn sl ha vr vn k s q rs ws A1 c1 A2 c2 i j g st y w0 B0 (by omega) (ok.below g0 hB))
  have HF := Lib.hid (fun z => rbformed_any br bn z)
  have HL := Lib.hid (fun z => rbless_any br bn pr pn z)
  have HM : Hid ((T.aformed pr pn sl ha vr vn k s q rs ws i j g st y && B.formed bn && !B.less br bn pr pn) = p) := hp.symm
  generalize T.aformed pr pn sl ha vr vn k s q rs ws i j g st y = m1 at HA HM
  generalize B.formed bn = m2 at HF HM
  generalize B.less br bn pr pn = m3 at HL HM
  clear ok hp
  generalize rs.length = n1 at *
  generalize ws.length = n2 at *
  go_enter Tryd.func103, Tryd.ntmps103
  go_upto_region 1 with fail
  rw [← hw0]
  clear hw0
  go_wp2_with fail
  refine HA.out.mono ?_
  rintro e w1 ⟨rfl, t1⟩
  have a0 := cellB t1 a0
  have a1 := cellB t1 a1
  have a2 := cellB t1 a2
  have a3 := cellB t1 a3
  have a4 := cellB t1 a4
  have a5 := cellB t1 a5
  have a6 := cellB t1 a6
  have a7 := cellB t1 a7
  have a8 := cellB t1 a8
  have a9 := cellB t1 a9
  have a10 := cellB t1 a10
  have a11 := cellB t1 a11
  have a12 := cellB t1 a12
  have a13 := cellB t1 a13
  have a14 := cellB t1 a14
  have a15 := cellB t1 a15
  have b0 := cellB t1 b0
  have b1 := cellB t1 b1
  have e1 := g0.trans (t1.mono gB)
  have s1 := t1.size
  cases m1 with
  | false =>
    have HR : Hid (false = p) := HM.out
    clear HM
    go_wp2_with fail
    go_ret
    exact ⟨ret_bool HR.out, e1⟩
  | true =>
    go_wp2_with fail
    refine (HF.out w1).mono ?_
    rintro e w2 ⟨rfl, t2⟩
    have a0 := cellB t2 a0
    have a1 := cellB t2 a1
    have a2 := cellB t2 a2
    have a3 := cellB t2 a3
    have a4 := cellB t2 a4
    have a5 := cellB t2 a5
    have a6 := cellB t2 a6
    have a7 := cellB t2 a7
    have a8 := cellB t2 a8
    have a9 := cellB t2 a9
    have a10 := cellB t2 a10
    have a11 := cellB t2 a11
    have a12 := cellB t2 a12
    have a13 := cellB t2 a13
    have a14 := cellB t2 a14
    have a15 := cellB t2 a15
    have b0 := cellB t2 b0
    have b1 := cellB t2 b1
    have e2 := e1.trans (t2.mono (by omega))
    have s2 := t2.size
    cases m2 with
    | false =>
      have HR : Hid (false = p) := HM.out
      clear HM
      go_wp2_with fail
      go_ret
      exact ⟨ret_bool HR.out, e2⟩
    | true =>
      go_wp2_with fail
      refine (HL.out w2).mono ?_
      rintro e w3 ⟨rfl, t3⟩
      have e3 := e2.trans (t3.mono (by omega))
      have HR : Hid ((!m3) = p) := HM.out
      clear HM
      go_wp2_with fail
      go_ret
      exact ⟨ret_bool HR.out, e3⟩
set_option maxRecDepth 20000 in
set_option maxHeartbeats 6400000 in
theorem rprep_no (pr : Nat) (pn sl : Int) (ha : Bool) (vr : Nat) (vn : Int) (k s q : Int) (rs : List Rd1) (ws : List Wr1) (A1 : Option Addr) (c1 : Nat) (A2 : Option Addr) (c2 : Nat) (i j g : Int) (st : Nat) (y : Bool) (br : Nat) (bn : Int) (w : World) (B0 : Nat) (hB : B0 ≤ w.heap.size) (ok : TxOk w B0 rs ws A1 c1 A2 c2) (hm : T.may pr pn sl ha vr vn k s q rs ws i j g st y br bn = false) :
    Calls Tryd.prog 66 #[.agg #[.int .u32 (pr : Int), .int .i64 pn, .int .i64 sl, .bool ha, .int .u32 (vr : Int), .int .i64 vn, .int .i64 k, .int .i64 s, .int .i64 q, .slice A1 rs.length c1, .slice A2 ws.length c2, .int .i64 i, .int .i64 j, .int .i64 g, .int .u64 (st : Int), .bool y], .agg #[.int .u32 (br : Int), .int .i64 bn]] w fun e w' => e = .returned (.tuple #[.agg #[.int .u32 (pr : Int), .int .i64 pn, .int .i64 sl, .bool ha, .int .u32 (vr : Int), .int .i64 vn, .int .i64 k, .int .i64 s, .int .i64 q, .slice A1 rs.length c1, .slice A2 ws.length c2, .int .i64 i, .int .i64 j, .int .i64 g, .int .u64 (st : Int), .bool y], .bool false]) ∧ Below w.heap.size w w' := by
  obtain ⟨w0, hw0⟩ : ∃ w0, w0 = ((w.alloc (.cells #[.int .u32 (pr : Int), .int .i64 pn, .int .i64 sl, .bool ha, .int .u32 (vr : Int), .int .i64 vn, .int .i64 k, .int .i64 s, .int .i64 q, .slice A1 rs.length c1, .slice A2 ws.length c2, .int .i64 i, .int .i64 j, .int .i64 g, .int .u64 (st : Int), .bool y] 43)).alloc (.cells #[.int .u32 (br : Int), .int .i64 bn] 40)).alloc (.cells #[.int .u32 0, .int .i64 0, .int .i64 0, .bool false, .int .u32 0, .int .i64 0, .int .i64 0, .int .i64 0, .int .i64 0, .slice none 0 0, .slice none 0 0, .int .i64 0, .int .i64 0, .int .i64 0, .int .u64 0, .bool false] 43) := ⟨_, rfl⟩
  have g0 : Below w.heap.size w w0 := by rw [hw0]; exact (((Below.refl _ _).alloc (Nat.le_refl _) _).alloc (by simp) _).alloc (by simp; omega) _
  have Za : w0.heap[w.heap.size]? = some (.cells #[.int .u32 (pr : Int), .int .i64 pn, .int .i64 sl, .bool ha, .int .u32 (vr : Int), .int .i64 vn, .int .i64 k, .int .i64 s, .int .i64 q, .slice A1 rs.length c1, .slice A2 ws.length c2, .int .i64 i, .int .i64 j, .int .i64 g, .int .u64 (st : Int), .bool y] 43) := by rw [hw0]; exact heapA3 (heapA3 (heap_alloc_new w _) _) _
  have Zb : w0.heap[w.heap.size + 1]? = some (.cells #[.int .u32 (br : Int), .int .i64 bn] 40) := by
    rw [hw0]; refine heapA3 ?_ _
    have := heap_alloc_new (w.alloc (.cells #[.int .u32 (pr : Int), .int .i64 pn, .int .i64 sl, .bool ha, .int .u32 (vr : Int), .int .i64 vn, .int .i64 k, .int .i64 s, .int .i64 q, .slice A1 rs.length c1, .slice A2 ws.length c2, .int .i64 i, .int .i64 j, .int .i64 g, .int .u64 (st : Int), .bool y] 43)) (.cells #[.int .u32 (br : Int), .int .i64 bn] 40)
    simpa using this
  have Zr : w0.heap[w.heap.size + 2]? = some (.cells #[.int .u32 0, .int .i64 0, .int .i64 0, .bool false, .int .u32 0, .int .i64 0, .int .i64 0, .int .i64 0, .int .i64 0, .slice none 0 0, .slice none 0 0, .int .i64 0, .int .i64 0, .int .i64 0, .int .u64 0, .bool false] 43) := by
    rw [hw0]
    have := heap_alloc_new ((w.alloc (.cells #[.int .u32 (pr : Int), .int .i64 pn, .int .i64 sl, .bool ha, .int .u32 (vr : Int), .int .i64 vn, .int .i64 k, .int .i64 s, .int .i64 q, .slice A1 rs.length c1, .slice A2 ws.length c2, .int .i64 i, .int .i64 j, .int .i64 g, .int .u64 (st : Int), .bool y] 43)).alloc (.cells #[.int .u32 (br : Int), .int .i64 bn] 40)) (.cells #[.int .u32 0, .int .i64 0, .int .i64 0, .bool false, .int .u32 0, .int .i64 0, .int .i64 0, .int .i64 0, .int .i64 0, .slice none 0 0, .slice none 0 0, .int .i64 0, .int .i64 0, .int .i64 0, .int .u64 0, .bool false] 43)
    simpa using this
  have gB := g0.size
  have HA := Lib.hid (rmay_any pr pn sl ha vr vn k s q rs ws A1 c1 A2 c2 i j g st y br bn w0 B0 (by omega) (ok.below g0 hB))
  rw [hm] at HA
  clear ok hm
  generalize rs.length = n1 at *
  generalize ws.length = n2 at *
  have a0 := cellAt Za 0
  have a1 := cellAt Za 1
  have a2 := cellAt Za 2
  have a3 := cellAt Za 3
  have a4 := cellAt Za 4
  have a5 := cellAt Za 5
  have a6 := cellAt Za 6
  have a7 := cellAt Za 7
  have a8 := cellAt Za 8
  have a9 := cellAt Za 9
  have a10 := cellAt Za 10
  have a11 := cellAt Za 11
  have a12 := cellAt Za 12
  have a13 := cellAt Za 13
  have a14 := cellAt Za 14
  have a15 := cellAt Za 15
  simp only [List.getElem?_toArray, List.getElem?_cons_zero, List.getElem?_cons_succ] at a0 a1 a2 a3 a4 a5 a6 a7 a8 a9 a10 a11 a12 a13 a14 a15
  have b0 := cellAt Zb 0
  have b1 := cellAt Zb 1
  simp only [List.getElem?_toArray, List.getElem?_cons_zero, List.getElem?_cons_succ] at b0 b1
  go_enter Tryd.func66, Tryd.ntmps66
  go_upto_region 1 with fail
  rw [← hw0]
  clear hw0
  go_wp2_with fail
  refine HA.out.mono ?_
  rintro e wx ⟨rfl, t1⟩
  have Za := heapB3 Za t1
  have Zb := heapB3 Zb t1
  have Zr := heapB3 Zr t1
  have e1 := g0.trans (t1.mono gB)
  clear a0 a1 a2 a3 a4 a5 a6 a7 a8 a9 a10 a11 a12 a13 a14 a15 b0 b1 t1 HA g0
  go_upto_region 4 with fail
  refine wp_region_lit ?_
  refine wpList_load_mid rfl 43 _ rfl w.heap.size 0 rfl [.int .u32 (pr : Int), .int .i64 pn, .int .i64 sl, .bool ha, .int .u32 (vr : Int), .int .i64 vn, .int .i64 k, .int .i64 s, .int .i64 q, .slice A1 n1 c1, .slice A2 n2 c2, .int .i64 i, .int .i64 j, .int .i64 g, .int .u64 (st : Int), .bool y] _ (rangeOf Za) Tryd.underlying43 rfl info16r ?_
  refine wpList_store_row rfl 43 _ _ rfl (w.heap.size + 2) #[.int .u32 (pr : Int), .int .i64 pn, .int .i64 sl, .bool ha, .int .u32 (vr : Int), .int .i64 vn, .int .i64 k, .int .i64 s, .int .i64 q, .slice A1 n1 c1, .slice A2 n2 c2, .int .i64 i, .int .i64 j, .int .i64 g, .int .u64 (st : Int), .bool y] rfl rfl 43 _ Zr info16r rfl (by simp [Value.oneCell']) ?_
  have Zf := setRow_heap wx (w.heap.size + 2) _ #[.int .u32 (pr : Int), .int .i64 pn, .int .i64 sl, .bool ha, .int .u32 (vr : Int), .int .i64 vn, .int .i64 k, .int .i64 s, .int .i64 q, .slice A1 n1 c1, .slice A2 n2 c2, .int .i64 i, .int .i64 j, .int .i64 g, .int .u64 (st : Int), .bool y] _ _ Zr
  have BZ : Below w.heap.size w (wx.setRow (w.heap.size + 2) #[.int .u32 (pr : Int), .int .i64 pn, .int .i64 sl, .bool ha, .int .u32 (vr : Int), .int .i64 vn, .int .i64 k, .int .i64 s, .int .i64 q, .slice A1 n1 c1, .slice A2 n2 c2, .int .i64 i, .int .i64 j, .int .i64 g, .int .u64 (st : Int), .bool y]) := belowRow e1 Zr (by omega)
  clear Za Zr
  generalize wx.setRow (w.heap.size + 2) #[.int .u32 (pr : Int), .int .i64 pn, .int .i64 sl, .bool ha, .int .u32 (vr : Int), .int .i64 vn, .int .i64 k, .int .i64 s, .int .i64 q, .slice A1 n1 c1, .slice A2 n2 c2, .int .i64 i, .int .i64 j, .int .i64 g, .int .u64 (st : Int), .bool y] = wz at Zf BZ ⊢
  have r0 := cellAt Zf 0
  have r1 := cellAt Zf 1
  have r2 := cellAt Zf 2
  have r3 := cellAt Zf 3
  have r4 := cellAt Zf 4
  have r5 := cellAt Zf 5
  have r6 := cellAt Zf 6
  have r7 := cellAt Zf 7
  have r8 := cellAt Zf 8
  have r9 := cellAt Zf 9
  have r10 := cellAt Zf 10
  have r11 := cellAt Zf 11
  have r12 := cellAt Zf 12
  have r13 := cellAt Zf 13
  have r14 := cellAt Zf 14
  have r15 := cellAt Zf 15
  simp only [List.getElem?_toArray, List.getElem?_cons_zero, List.getElem?_cons_succ] at r0 r1 r2 r3 r4 r5 r6 r7 r8 r9 r10 r11 r12 r13 r14 r15
  go_wp2_with fail
  refine bodyPost_ret (v := .tuple #[.agg #[.int .u32 (pr : Int), .int .i64 pn, .int .i64 sl, .bool ha, .int .u32 (vr : Int), .int .i64 vn, .int .i64 k, .int .i64 s, .int .i64 q, .slice A1 n1 c1, .slice A2 n2 c2, .int .i64 i, .int .i64 j, .int .i64 g, .int .u64 (st : Int), .bool y], .bool false]) (by simp [results, Tryd.results66, go_sem, r0, r1, r2, r3, r4, r5, r6, r7, r8, r9, r10, r11, r12, r13, r14, r15]) rfl ⟨rfl, BZ⟩
set_option maxRecDepth 20000 in
set_option maxHeartbeats 6400000 in
theorem rprep_yes (pr : Nat) (pn sl : Int) (ha : Bool) (vr : Nat) (vn : Int) (k s q : Int) (rs : List Rd1) (ws : List Wr1) (A1 : Option Addr) (c1 : Nat) (A2 : Option Addr) (c2 : Nat) (i j g : Int) (st : Nat) (y : Bool) (br : Nat) (bn : Int) (w : World) (B0 : Nat) (hB : B0 ≤ w.heap.size) (ok : TxOk w B0 rs ws A1 c1 A2 c2) (hm : T.may pr pn sl ha vr vn k s q rs ws i j g st y br bn = true) :
    Calls Tryd.prog 66 #[.agg #[.int .u32 (pr : Int), .int .i64 pn, .int .i64 sl, .bool ha, .int .u32 (vr : Int), .int .i64 vn, .int .i64 k, .int .i64 s, .int .i64 q, .slice A1 rs.length c1, .slice A2 ws.length c2, .int .i64 i, .int .i64 j, .int .i64 g, .int .u64 (st : Int), .bool y], .agg #[.int .u32 (br : Int), .int .i64 bn]] w fun e w' => e = .returned (.tuple #[.agg #[.int .u32 (br : Int), .int .i64 bn, .int .i64 sl, .bool ha, .int .u32 (vr : Int), .int .i64 vn, .int .i64 k, .int .i64 s, .int .i64 q, .slice A1 rs.length c1, .slice A2 ws.length c2, .int .i64 i, .int .i64 j, .int .i64 g, .int .u64 (st : Int), .bool y], .bool true]) ∧ Below w.heap.size w w' := by
  obtain ⟨w0, hw0⟩ : ∃ w0, w0 = ((w.alloc (.cells #[.int .u32 (pr : Int), .int .i64 pn, .int .i64 sl, .bool ha, .int .u32 (vr : Int), .int .i64 vn, .int .i64 k, .int .i64 s, .int .i64 q, .slice A1 rs.length c1, .slice A2 ws.length c2, .int .i64 i, .int .i64 j, .int .i64 g, .int .u64 (st : Int), .bool y] 43)).alloc (.cells #[.int .u32 (br : Int), .int .i64 bn] 40)).alloc (.cells #[.int .u32 0, .int .i64 0, .int .i64 0, .bool false, .int .u32 0, .int .i64 0, .int .i64 0, .int .i64 0, .int .i64 0, .slice none 0 0, .slice none 0 0, .int .i64 0, .int .i64 0, .int .i64 0, .int .u64 0, .bool false] 43) := ⟨_, rfl⟩
  have g0 : Below w.heap.size w w0 := by rw [hw0]; exact (((Below.refl _ _).alloc (Nat.le_refl _) _).alloc (by simp) _).alloc (by simp; omega) _
  have Za : w0.heap[w.heap.size]? = some (.cells #[.int .u32 (pr : Int), .int .i64 pn, .int .i64 sl, .bool ha, .int .u32 (vr : Int), .int .i64 vn, .int .i64 k, .int .i64 s, .int .i64 q, .slice A1 rs.length c1, .slice A2 ws.length c2, .int .i64 i, .int .i64 j, .int .i64 g, .int .u64 (st : Int), .bool y] 43) := by rw [hw0]; exact heapA3 (heapA3 (heap_alloc_new w _) _) _
  have Zb : w0.heap[w.heap.size + 1]? = some (.cells #[.int .u32 (br : Int), .int .i64 bn] 40) := by
    rw [hw0]; refine heapA3 ?_ _
    have := heap_alloc_new (w.alloc (.cells #[.int .u32 (pr : Int), .int .i64 pn, .int .i64 sl, .bool ha, .int .u32 (vr : Int), .int .i64 vn, .int .i64 k, .int .i64 s, .int .i64 q, .slice A1 rs.length c1, .slice A2 ws.length c2, .int .i64 i, .int .i64 j, .int .i64 g, .int .u64 (st : Int), .bool y] 43)) (.cells #[.int .u32 (br : Int), .int .i64 bn] 40)
    simpa using this
  have Zr : w0.heap[w.heap.size + 2]? = some (.cells #[.int .u32 0, .int .i64 0, .int .i64 0, .bool false, .int .u32 0, .int .i64 0, .int .i64 0, .int .i64 0, .int .i64 0, .slice none 0 0, .slice none 0 0, .int .i64 0, .int .i64 0, .int .i64 0, .int .u64 0, .bool false] 43) := by
    rw [hw0]
    have := heap_alloc_new ((w.alloc (.cells #[.int .u32 (pr : Int), .int .i64 pn, .int .i64 sl, .bool ha, .int .u32 (vr : Int), .int .i64 vn, .int .i64 k, .int .i64 s, .int .i64 q, .slice A1 rs.length c1, .slice A2 ws.length c2, .int .i64 i, .int .i64 j, .int .i64 g, .int .u64 (st : Int), .bool y] 43)).alloc (.cells #[.int .u32 (br : Int), .int .i64 bn] 40)) (.cells #[.int .u32 0, .int .i64 0, .int .i64 0, .bool false, .int .u32 0, .int .i64 0, .int .i64 0, .int .i64 0, .int .i64 0, .slice none 0 0, .slice none 0 0, .int .i64 0, .int .i64 0, .int .i64 0, .int .u64 0, .bool false] 43)
    simpa using this
  have gB := g0.size
  have HA := Lib.hid (rmay_any pr pn sl ha vr vn k s q rs ws A1 c1 A2 c2 i j g st y br bn w0 B0 (by omega) (ok.below g0 hB))
  rw [hm] at HA
  clear ok hm
  generalize rs.length = n1 at *
  generalize ws.length = n2 at *
  have a0 := cellAt Za 0
  have a1 := cellAt Za 1
  have a2 := cellAt Za 2
  have a3 := cellAt Za 3
  have a4 := cellAt Za 4
  have a5 := cellAt Za 5
  have a6 := cellAt Za 6
  have a7 := cellAt Za 7
  have a8 := cellAt Za 8
  have a9 := cellAt Za 9
  have a10 := cellAt Za 10
  have a11 := cellAt Za 11
  have a12 := cellAt Za 12
  have a13 := cellAt Za 13
  have a14 := cellAt Za 14
  have a15 := cellAt Za 15
  simp only [List.getElem?_toArray, List.getElem?_cons_zero, List.getElem?_cons_succ] at a0 a1 a2 a3 a4 a5 a6 a7 a8 a9 a10 a11 a12 a13 a14 a15
  have b0 := cellAt Zb 0
  have b1 := cellAt Zb 1
  simp only [List.getElem?_toArray, List.getElem?_cons_zero, List.getElem?_cons_succ] at b0 b1
  go_enter Tryd.func66, Tryd.ntmps66
  go_upto_region 1 with fail
  rw [← hw0]
  clear hw0
  go_wp2_with fail
  refine HA.out.mono ?_
  rintro e wx ⟨rfl, t1⟩
  have Za := heapB3 Za t1
  have Zb := heapB3 Zb t1
  have Zr := heapB3 Zr t1
  have e1 := g0.trans (t1.mono gB)
  clear a0 a1 a2 a3 a4 a5 a6 a7 a8 a9 a10 a11 a12 a13 a14 a15 b0 b1 t1 HA g0
  have a0 := cellAt Za 0
  have a1 := cellAt Za 1
  have u0 := freeAt Za 0
  have u1 := freeAt Za 1
  have b0 := cellAt Zb 0
  have b1 := cellAt Zb 1
  simp only [List.getElem?_toArray, List.getElem?_cons_zero, List.getElem?_cons_succ] at a0 a1 b0 b1
  go_upto_region 3 with fail
  have Za := setAt Za 0 (.int .u32 (br : Int))
  simp only [List.setIfInBounds_toArray, List.set_cons_succ, List.set_cons_zero] at Za
  have Za := setAt Za 1 (.int .i64 bn)
  simp only [List.setIfInBounds_toArray, List.set_cons_succ, List.set_cons_zero] at Za
  have Zr := heapS3 (heapS3 Zr (p := ⟨w.heap.size, 0, none⟩) (by simp) (.int .u32 (br : Int))) (p := ⟨w.heap.size, 1, none⟩) (by simp) (.int .i64 bn)
  have e1 := Below.setCell (p := ⟨w.heap.size, 1, none⟩) (Below.setCell (p := ⟨w.heap.size, 0, none⟩) e1 (by simp) (.int .u32 (br : Int))) (by simp) (.int .i64 bn)
  clear a0 a1 u0 u1 b0 b1 Zb
  generalize (wx.setCell ⟨w.heap.size, 0, none⟩ (.int .u32 (br : Int))).setCell ⟨w.heap.size, 1, none⟩ (.int .i64 bn) = wy at Za Zr e1 ⊢
  go_upto_region 3 with fail
  refine wp_region_lit ?_
  refine wpList_load_mid rfl 43 _ rfl w.heap.size 0 rfl [.int .u32 (br : Int), .int .i64 bn, .int .i64 sl, .bool ha, .int .u32 (vr : Int), .int .i64 vn, .int .i64 k, .int .i64 s, .int .i64 q, .slice A1 n1 c1, .slice A2 n2 c2, .int .i64 i, .int .i64 j, .int .i64 g, .int .u64 (st : Int), .bool y] _ (rangeOf Za) Tryd.underlying43 rfl info16r ?_
  refine wpList_store_row rfl 43 _ _ rfl (w.heap.size + 2) #[.int .u32 (br : Int), .int .i64 bn, .int .i64 sl, .bool ha, .int .u32 (vr : Int), .int .i64 vn, .int .i64 k, .int .i64 s, .int .i64 q, .slice A1 n1 c1, .slice A2 n2 c2, .int .i64 i, .int .i64 j, .int .i64 g, .int .u64 (st : Int), .bool y] rfl rfl 43 _ Zr info16r rfl (by simp [Value.oneCell']) ?_
  have Zf := setRow_heap wy (w.heap.size + 2) _ #[.int .u32 (br : Int), .int .i64 bn, .int .i64 sl, .bool ha, .int .u32 (vr : Int), .int .i64 vn, .int .i64 k, .int .i64 s, .int .i64 q, .slice A1 n1 c1, .slice A2 n2 c2, .int .i64 i, .int .i64 j, .int .i64 g, .int .u64 (st : Int), .bool y] _ _ Zr
  have BZ : Below w.heap.size w (wy.setRow (w.heap.size + 2) #[.int .u32 (br : Int), .int .i64 bn, .int .i64 sl, .bool ha, .int .u32 (vr : Int), .int .i64 vn, .int .i64 k, .int .i64 s, .int .i64 q, .slice A1 n1 c1, .slice A2 n2 c2, .int .i64 i, .int .i64 j, .int .i64 g, .int .u64 (st : Int), .bool y]) := belowRow e1 Zr (by omega)
  clear Za Zr
  generalize wy.setRow (w.heap.size + 2) #[.int .u32 (br : Int), .int .i64 bn, .int .i64 sl, .bool ha, .int .u32 (vr : Int), .int .i64 vn, .int .i64 k, .int .i64 s, .int .i64 q, .slice A1 n1 c1, .slice A2 n2 c2, .int .i64 i, .int .i64 j, .int .i64 g, .int .u64 (st : Int), .bool y] = wz at Zf BZ ⊢
  have r0 := cellAt Zf 0
  have r1 := cellAt Zf 1
  have r2 := cellAt Zf 2
  have r3 := cellAt Zf 3
  have r4 := cellAt Zf 4
  have r5 := cellAt Zf 5
  have r6 := cellAt Zf 6
  have r7 := cellAt Zf 7
  have r8 := cellAt Zf 8
  have r9 := cellAt Zf 9
  have r10 := cellAt Zf 10
  have r11 := cellAt Zf 11
  have r12 := cellAt Zf 12
  have r13 := cellAt Zf 13
  have r14 := cellAt Zf 14
  have r15 := cellAt Zf 15
  simp only [List.getElem?_toArray, List.getElem?_cons_zero, List.getElem?_cons_succ] at r0 r1 r2 r3 r4 r5 r6 r7 r8 r9 r10 r11 r12 r13 r14 r15
  go_wp2_with fail
  refine bodyPost_ret (v := .tuple #[.agg #[.int .u32 (br : Int), .int .i64 bn, .int .i64 sl, .bool ha, .int .u32 (vr : Int), .int .i64 vn, .int .i64 k, .int .i64 s, .int .i64 q, .slice A1 n1 c1, .slice A2 n2 c2, .int .i64 i, .int .i64 j, .int .i64 g, .int .u64 (st : Int), .bool y], .bool true]) (by simp [results, Tryd.results66, go_sem, r0, r1, r2, r3, r4, r5, r6, r7, r8, r9, r10, r11, r12, r13, r14, r15]) rfl ⟨rfl, BZ⟩
end Go.Proofs.YtbahooohkigcnaaDoor
