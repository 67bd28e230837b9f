/- The walk of the reference's Accept of acceptors: what it refuses. Conditions: what lies, lies below. (Printed by gen_acce.py.) -/
import Derived.Test.YtbahooohkigcnaaDoorAccC
namespace Go.Proofs.YtbahooohkigcnaaDoor
set_option maxRecDepth 20000
open Go.RowKit T
set_option linter.unusedSimpArgs false
set_option linter.unusedVariables false

set_option maxRecDepth 20000 in
set_option maxHeartbeats 6400000 in
theorem raccept_0 (pr : Nat) (pn sl : Int) (ha : Bool) (vr : Nat) (vn : Int) (k s q : Int) (rs : List Rd1) (ws : List Wr1) (A1 : Option Addr) (c1 : Nat) (A2 : Option Addr) (c2 : Nat) (i j g : Int) (st : Nat) (y : Bool) (br : Nat) (bn : Int) (sn : Int) (xk xs xq : Int) (xr : List Rd1) (xw : List Wr1) (X1 : Option Addr) (d1 : Nat) (X2 : Option Addr) (d2 : Nat) (xi xj xg : Int) (xst : Nat) (xy : Bool) (w : World) (B0 : Nat) (hB : B0 ≤ w.heap.size) (ok : TxOk w B0 rs ws A1 c1 A2 c2) (okx : TxOk w B0 xr xw X1 d1 X2 d2) (hm : (T.may pr pn sl ha vr vn k s q rs ws i j g st y br bn && T.cformed xk xs xq xr xw xi xj xg xst xy) = false) :
    Calls Tryd.prog 67 #[.agg #[.int .u32 (pr : Int), .int .i64 pn, .int .i64 sl, .bool ha, .int .u32 (vr : Int), .int .i64 vn, .int .i64 k, .int .i64 s, .int .i64 q, .slice A1 rs.length c1, .slice A2 ws.length c2, .int .i64 i, .int .i64 j, .int .i64 g, .int .u64 (st : Int), .bool y], .agg #[.int .u32 (br : Int), .int .i64 bn], .int .i64 sn, .agg #[.int .i64 xk, .int .i64 xs, .int .i64 xq, .slice X1 xr.length d1, .slice X2 xw.length d2, .int .i64 xi, .int .i64 xj, .int .i64 xg, .int .u64 (xst : Int), .bool xy]] w fun e w' => e = .returned (.tuple #[.agg #[.int .u32 (pr : Int), .int .i64 pn, .int .i64 sl, .bool ha, .int .u32 (vr : Int), .int .i64 vn, .int .i64 k, .int .i64 s, .int .i64 q, .slice A1 rs.length c1, .slice A2 ws.length c2, .int .i64 i, .int .i64 j, .int .i64 g, .int .u64 (st : Int), .bool y], .int .i64 0]) ∧ Below w.heap.size w w' := by
  obtain ⟨w0, hw0⟩ : ∃ w0, w0 = (((w.alloc (.cells #[.int .u32 (pr : Int), .int .i64 pn, .int .i64 sl, .bool ha, .int .u32 (vr : Int), .int .i64 vn, .int .i64 k, .int .i64 s, .int .i64 q, .slice A1 rs.length c1, .slice A2 ws.length c2, .int .i64 i, .int .i64 j, .int .i64 g, .int .u64 (st : Int), .bool y] 43)).alloc (.cells #[.int .u32 (br : Int), .int .i64 bn] 40)).alloc (.cells #[.int .i64 xk, .int .i64 xs, .int .i64 xq, .slice X1 xr.length d1, .slice X2 xw.length d2, .int .i64 xi, .int .i64 xj, .int .i64 xg, .int .u64 (xst : Int), .bool xy] 41)).alloc (.cells #[.int .u32 0, .int .i64 0, .int .i64 0, .bool false, .int .u32 0, .int .i64 0, .int .i64 0, .int .i64 0, .int .i64 0, .slice none 0 0, .slice none 0 0, .int .i64 0, .int .i64 0, .int .i64 0, .int .u64 0, .bool false] 43) := ⟨_, rfl⟩
  have g0 : Below w.heap.size w w0 := by rw [hw0]; exact ((((Below.refl _ _).alloc (Nat.le_refl _) _).alloc (by simp) _).alloc (by simp; omega) _).alloc (by simp; omega) _
  have Za : w0.heap[w.heap.size]? = some (.cells #[.int .u32 (pr : Int), .int .i64 pn, .int .i64 sl, .bool ha, .int .u32 (vr : Int), .int .i64 vn, .int .i64 k, .int .i64 s, .int .i64 q, .slice A1 rs.length c1, .slice A2 ws.length c2, .int .i64 i, .int .i64 j, .int .i64 g, .int .u64 (st : Int), .bool y] 43) := by rw [hw0]; exact heapA3 (heapA3 (heapA3 (heap_alloc_new w _) _) _) _
  have Zb : w0.heap[w.heap.size + 1]? = some (.cells #[.int .u32 (br : Int), .int .i64 bn] 40) := by
    rw [hw0]; refine heapA3 (heapA3 ?_ _) _
    have := heap_alloc_new (w.alloc (.cells #[.int .u32 (pr : Int), .int .i64 pn, .int .i64 sl, .bool ha, .int .u32 (vr : Int), .int .i64 vn, .int .i64 k, .int .i64 s, .int .i64 q, .slice A1 rs.length c1, .slice A2 ws.length c2, .int .i64 i, .int .i64 j, .int .i64 g, .int .u64 (st : Int), .bool y] 43)) (.cells #[.int .u32 (br : Int), .int .i64 bn] 40)
    simpa using this
  have Zx : w0.heap[w.heap.size + 2]? = some (.cells #[.int .i64 xk, .int .i64 xs, .int .i64 xq, .slice X1 xr.length d1, .slice X2 xw.length d2, .int .i64 xi, .int .i64 xj, .int .i64 xg, .int .u64 (xst : Int), .bool xy] 41) := by
    rw [hw0]; refine heapA3 ?_ _
    have := heap_alloc_new ((w.alloc (.cells #[.int .u32 (pr : Int), .int .i64 pn, .int .i64 sl, .bool ha, .int .u32 (vr : Int), .int .i64 vn, .int .i64 k, .int .i64 s, .int .i64 q, .slice A1 rs.length c1, .slice A2 ws.length c2, .int .i64 i, .int .i64 j, .int .i64 g, .int .u64 (st : Int), .bool y] 43)).alloc (.cells #[.int .u32 (br : Int), .int .i64 bn] 40)) (.cells #[.int .i64 xk, .int .i64 xs, .int .i64 xq, .slice X1 xr.length d1, .slice X2 xw.length d2, .int .i64 xi, .int .i64 xj, .int .i64 xg, .int .u64 (xst : Int), .bool xy] 41)
    simpa using this
  have Zr : w0.heap[w.heap.size + 3]? = some (.cells #[.int .u32 0, .int .i64 0, .int .i64 0, .bool false, .int .u32 0, .int .i64 0, .int .i64 0, .int .i64 0, .int .i64 0, .slice none 0 0, .slice none 0 0, .int .i64 0, .int .i64 0, .int .i64 0, .int .u64 0, .bool false] 43) := by
    rw [hw0]
    have := heap_alloc_new (((w.alloc (.cells #[.int .u32 (pr : Int), .int .i64 pn, .int .i64 sl, .bool ha, .int .u32 (vr : Int), .int .i64 vn, .int .i64 k, .int .i64 s, .int .i64 q, .slice A1 rs.length c1, .slice A2 ws.length c2, .int .i64 i, .int .i64 j, .int .i64 g, .int .u64 (st : Int), .bool y] 43)).alloc (.cells #[.int .u32 (br : Int), .int .i64 bn] 40)).alloc (.cells #[.int .i64 xk, .int .i64 xs, .int .i64 xq, .slice X1 xr.length d1, .slice X2 xw.length d2, .int .i64 xi, .int .i64 xj, .int .i64 xg, .int .u64 (xst : Int), .bool xy] 41)) (.cells #[.int .u32 0, .int .i64 0, .int .i64 0, .bool false, .int .u32 0, .int .i64 0, .int .i64 0, .int .i64 0, .int .i64 0, .slice none 0 0, .slice none 0 0, .int .i64 0, .int .i64 0, .int .i64 0, .int .u64 0, .bool false] 43)
    simpa using this
  have gB := g0.size
  have HA := Lib.hid (rmay_any pr pn sl ha vr vn k s q rs ws A1 c1 A2 c2 i j g st y br bn w0 B0 (by omega) (ok.below g0 hB))
  have HX := Lib.hid (fun z (hz : Below w0.heap.size w0 z) => rcformed_any xk xs xq xr xw X1 d1 X2 d2 xi xj xg xst xy z B0 (by have := hz.size; omega) ((okx.below g0 hB).below hz (by omega)))
  have HM := Lib.hid hm
  generalize T.may pr pn sl ha vr vn k s q rs ws i j g st y br bn = m1 at HA HM
  generalize T.cformed xk xs xq xr xw xi xj xg xst xy = m2 at HX HM
  clear ok okx hm
  generalize rs.length = n1 at *
  generalize ws.length = n2 at *
  generalize xr.length = mm1 at *
  generalize xw.length = mm2 at *
  have a0 := cellAt Za 0
  have a1 := cellAt Za 1
  have a2 := cellAt Za 2
  have a3 := cellAt Za 3
  have a4 := cellAt Za 4
  have a5 := cellAt Za 5
  have a6 := cellAt Za 6
  have a7 := cellAt Za 7
  have a8 := cellAt Za 8
  have a9 := cellAt Za 9
  have a10 := cellAt Za 10
  have a11 := cellAt Za 11
  have a12 := cellAt Za 12
  have a13 := cellAt Za 13
  have a14 := cellAt Za 14
  have a15 := cellAt Za 15
  simp only [List.getElem?_toArray, List.getElem?_cons_zero, List.getElem?_cons_succ] at a0 a1 a2 a3 a4 a5 a6 a7 a8 a9 a10 a11 a12 a13 a14 a15
  have b0 := cellAt Zb 0
  have b1 := cellAt Zb 1
  simp only [List.getElem?_toArray, List.getElem?_cons_zero, List.getElem?_cons_succ] at b0 b1
  have x0 := cellAt Zx 0
  have x1 := cellAt Zx 1
  have x2 := cellAt Zx 2
  have x3 := cellAt Zx 3
  have x4 := cellAt Zx 4
  have x5 := cellAt Zx 5
  have x6 := cellAt Zx 6
  have x7 := cellAt Zx 7
  have x8 := cellAt Zx 8
  have x9 := cellAt Zx 9
  simp only [List.getElem?_toArray, List.getElem?_cons_zero, List.getElem?_cons_succ] at x0 x1 x2 x3 x4 x5 x6 x7 x8 x9
  go_enter Tryd.func67, Tryd.ntmps67
  go_upto_region 1 with fail
  rw [← hw0]
  clear hw0
  go_cut [18] (fun u wx => u = .bool true ∧ Hid (wx.heap[w.heap.size]? = some (.cells #[.int .u32 (pr : Int), .int .i64 pn, .int .i64 sl, .bool ha, .int .u32 (vr : Int), .int .i64 vn, .int .i64 k, .int .i64 s, .int .i64 q, .slice A1 n1 c1, .slice A2 n2 c2, .int .i64 i, .int .i64 j, .int .i64 g, .int .u64 (st : Int), .bool y] 43)) ∧ Hid (wx.heap[w.heap.size + 1]? = some (.cells #[.int .u32 (br : Int), .int .i64 bn] 40)) ∧ Hid (wx.heap[w.heap.size + 2]? = some (.cells #[.int .i64 xk, .int .i64 xs, .int .i64 xq, .slice X1 mm1 d1, .slice X2 mm2 d2, .int .i64 xi, .int .i64 xj, .int .i64 xg, .int .u64 (xst : Int), .bool xy] 41)) ∧ Hid (wx.heap[w.heap.size + 3]? = some (.cells #[.int .u32 0, .int .i64 0, .int .i64 0, .bool false, .int .u32 0, .int .i64 0, .int .i64 0, .int .i64 0, .int .i64 0, .slice none 0 0, .slice none 0 0, .int .i64 0, .int .i64 0, .int .i64 0, .int .u64 0, .bool false] 43)) ∧ Hid (Below w.heap.size w wx))
  case first =>
    go_wp2_with fail
    refine HA.out.mono ?_
    rintro e w1 ⟨rfl, t1⟩
    have x0 := cellB t1 x0
    have x1 := cellB t1 x1
    have x2 := cellB t1 x2
    have x3 := cellB t1 x3
    have x4 := cellB t1 x4
    have x5 := cellB t1 x5
    have x6 := cellB t1 x6
    have x7 := cellB t1 x7
    have x8 := cellB t1 x8
    have x9 := cellB t1 x9
    have e1 := g0.trans (t1.mono gB)
    have s1 := t1.size
    cases m1 with
    | false =>
      go_wp2_with fail
      go_meet
      exact ⟨rfl, heapB3 Za t1, heapB3 Zb t1, heapB3 Zx t1, heapB3 Zr t1, e1⟩
    | true =>
      have h2 : m2 = false := by have := HM.out; simpa using this
      subst h2
      go_wp2_with fail
      refine (HX.out w1 t1).mono ?_
      rintro e w2 ⟨rfl, t2⟩
      have e2 := e1.trans (t2.mono (by omega))
      go_wp2_with fail
      go_meet
      exact ⟨rfl, heapB3 (heapB3 Za t1) t2, heapB3 (heapB3 Zb t1) t2, heapB3 (heapB3 Zx t1) t2, heapB3 (heapB3 Zr t1) t2, e2⟩
  case rest =>
    obtain ⟨rfl, Za, Zb, Zx, Zr, e1⟩ := hcut
    have nm : ∀ z : World, Below w.heap.size w z → ∃ z', z' = z := fun z _ => ⟨z, rfl⟩
    obtain ⟨wx, hwx⟩ := nm _ e1.out
    subst hwx
    clear nm g0 gB HA HM HX a0 a1 a2 a3 a4 a5 a6 a7 a8 a9 a10 a11 a12 a13 a14 a15 b0 b1 x0 x1 x2 x3 x4 x5 x6 x7 x8 x9
    have Za := Za.out
    have Zb := Zb.out
    have Zx := Zx.out
    have Zr := Zr.out
    have e1 := e1.out
    go_upto_region 2 with fail
    refine wp_region_lit ?_
    refine wpList_load_mid rfl 43 _ rfl w.heap.size 0 rfl [.int .u32 (pr : Int), .int .i64 pn, .int .i64 sl, .bool ha, .int .u32 (vr : Int), .int .i64 vn, .int .i64 k, .int .i64 s, .int .i64 q, .slice A1 n1 c1, .slice A2 n2 c2, .int .i64 i, .int .i64 j, .int .i64 g, .int .u64 (st : Int), .bool y] _ (rangeOf Za) Tryd.underlying43 rfl info16r ?_
    refine wpList_store_row rfl 43 _ _ rfl (w.heap.size + 3) #[.int .u32 (pr : Int), .int .i64 pn, .int .i64 sl, .bool ha, .int .u32 (vr : Int), .int .i64 vn, .int .i64 k, .int .i64 s, .int .i64 q, .slice A1 n1 c1, .slice A2 n2 c2, .int .i64 i, .int .i64 j, .int .i64 g, .int .u64 (st : Int), .bool y] rfl rfl 43 _ Zr info16r rfl (by simp [Value.oneCell']) ?_
    have Zf := setRow_heap wx (w.heap.size + 3) _ #[.int .u32 (pr : Int), .int .i64 pn, .int .i64 sl, .bool ha, .int .u32 (vr : Int), .int .i64 vn, .int .i64 k, .int .i64 s, .int .i64 q, .slice A1 n1 c1, .slice A2 n2 c2, .int .i64 i, .int .i64 j, .int .i64 g, .int .u64 (st : Int), .bool y] _ _ Zr
    have BZ : Below w.heap.size w (wx.setRow (w.heap.size + 3) #[.int .u32 (pr : Int), .int .i64 pn, .int .i64 sl, .bool ha, .int .u32 (vr : Int), .int .i64 vn, .int .i64 k, .int .i64 s, .int .i64 q, .slice A1 n1 c1, .slice A2 n2 c2, .int .i64 i, .int .i64 j, .int .i64 g, .int .u64 (st : Int), .bool y]) := belowRow e1 Zr (by omega)
    clear Za Zr
    generalize wx.setRow (w.heap.size + 3) #[.int .u32 (pr : Int), .int .i64 pn, .int .i64 sl, .bool ha, .int .u32 (vr : Int), .int .i64 vn, .int .i64 k, .int .i64 s, .int .i64 q, .slice A1 n1 c1, .slice A2 n2 c2, .int .i64 i, .int .i64 j, .int .i64 g, .int .u64 (st : Int), .bool y] = wz at Zf BZ ⊢
    have r0 := cellAt Zf 0
    have r1 := cellAt Zf 1
    have r2 := cellAt Zf 2
    have r3 := cellAt Zf 3
    have r4 := cellAt Zf 4
    have r5 := cellAt Zf 5
    have r6 := cellAt Zf 6
    have r7 := cellAt Zf 7
    have r8 := cellAt Zf 8
    have r9 := cellAt Zf 9
    have r10 := cellAt Zf 10
    have r11 := cellAt Zf 11
    have r12 := cellAt Zf 12
    have r13 := cellAt Zf 13
    have r14 := cellAt Zf 14
    have r15 := cellAt Zf 15
    simp only [List.getElem?_toArray, List.getElem?_cons_zero, List.getElem?_cons_succ] at r0 r1 r2 r3 r4 r5 r6 r7 r8 r9 r10 r11 r12 r13 r14 r15
    go_wp2_with fail
    refine bodyPost_ret (v := .tuple #[.agg #[.int .u32 (pr : Int), .int .i64 pn, .int .i64 sl, .bool ha, .int .u32 (vr : Int), .int .i64 vn, .int .i64 k, .int .i64 s, .int .i64 q, .slice A1 n1 c1, .slice A2 n2 c2, .int .i64 i, .int .i64 j, .int .i64 g, .int .u64 (st : Int), .bool y], .int .i64 0]) (by simp [results, Tryd.results67, go_sem, r0, r1, r2, r3, r4, r5, r6, r7, r8, r9, r10, r11, r12, r13, r14, r15]) rfl ⟨rfl, BZ⟩
set_option maxRecDepth 20000 in
set_option maxHeartbeats 6400000 in
theorem raccept_1 (pr : Nat) (pn sl : Int) (ha : Bool) (vr : Nat) (vn : Int) (k s q : Int) (rs : List Rd1) (ws : List Wr1) (A1 : Option Addr) (c1 : Nat) (A2 : Option Addr) (c2 : Nat) (i j g : Int) (st : Nat) (y : Bool) (br : Nat) (bn : Int) (sn : Int) (xk xs xq : Int) (xr : List Rd1) (xw : List Wr1) (X1 : Option Addr) (d1 : Nat) (X2 : Option Addr) (d2 : Nat) (xi xj xg : Int) (xst : Nat) (xy : Bool) (w : World) (B0 : Nat) (hB : B0 ≤ w.heap.size) (ok : TxOk w B0 rs ws A1 c1 A2 c2) (okx : TxOk w B0 xr xw X1 d1 X2 d2) (hm : (T.may pr pn sl ha vr vn k s q rs ws i j g st y br bn && T.cformed xk xs xq xr xw xi xj xg xst xy) = true) (hs : sn < sl) :
    Calls Tryd.prog 67 #[.agg #[.int .u32 (pr : Int), .int .i64 pn, .int .i64 sl, .bool ha, .int .u32 (vr : Int), .int .i64 vn, .int .i64 k, .int .i64 s, .int .i64 q, .slice A1 rs.length c1, .slice A2 ws.length c2, .int .i64 i, .int .i64 j, .int .i64 g, .int .u64 (st : Int), .bool y], .agg #[.int .u32 (br : Int), .int .i64 bn], .int .i64 sn, .agg #[.int .i64 xk, .int .i64 xs, .int .i64 xq, .slice X1 xr.length d1, .slice X2 xw.length d2, .int .i64 xi, .int .i64 xj, .int .i64 xg, .int .u64 (xst : Int), .bool xy]] w fun e w' => e = .returned (.tuple #[.agg #[.int .u32 (pr : Int), .int .i64 pn, .int .i64 sl, .bool ha, .int .u32 (vr : Int), .int .i64 vn, .int .i64 k, .int .i64 s, .int .i64 q, .slice A1 rs.length c1, .slice A2 ws.length c2, .int .i64 i, .int .i64 j, .int .i64 g, .int .u64 (st : Int), .bool y], .int .i64 1]) ∧ Below w.heap.size w w' := by
  obtain ⟨w0, hw0⟩ : ∃ w0, w0 = (((w.alloc (.cells #[.int .u32 (pr : Int), .int .i64 pn, .int .i64 sl, .bool ha, .int .u32 (vr : Int), .int .i64 vn, .int .i64 k, .int .i64 s, .int .i64 q, .slice A1 rs.length c1, .slice A2 ws.length c2, .int .i64 i, .int .i64 j, .int .i64 g, .int .u64 (st : Int), .bool y] 43)).alloc (.cells #[.int .u32 (br : Int), .int .i64 bn] 40)).alloc (.cells #[.int .i64 xk, .int .i64 xs, .int .i64 xq, .slice X1 xr.length d1, .slice X2 xw.length d2, .int .i64 xi, .int .i64 xj, .int .i64 xg, .int .u64 (xst : Int), .bool xy] 41)).alloc (.cells #[.int .u32 0, .int .i64 0, .int .i64 0, .bool false, .int .u32 0, .int .i64 0, .int .i64 0, .int .i64 0, .int .i64 0, .slice none 0 0, .slice none 0 0, .int .i64 0, .int .i64 0, .int .i64 0, .int .u64 0, .bool false] 43) := ⟨_, rfl⟩
  have g0 : Below w.heap.size w w0 := by rw [hw0]; exact ((((Below.refl _ _).alloc (Nat.le_refl _) _).alloc (by simp) _).alloc (by simp; omega) _).alloc (by simp; omega) _
  have Za : w0.heap[w.heap.size]? = some (.cells #[.int .u32 (pr : Int), .int .i64 pn, .int .i64 sl, .bool ha, .int .u32 (vr : Int), .int .i64 vn, .int .i64 k, .int .i64 s, .int .i64 q, .slice A1 rs.length c1, .slice A2 ws.length c2, .int .i64 i, .int .i64 j, .int .i64 g, .int .u64 (st : Int), .bool y] 43) := by rw [hw0]; exact heapA3 (heapA3 (heapA3 (heap_alloc_new w _) _) _) _
  have Zb : w0.heap[w.heap.size + 1]? = some (.cells #[.int .u32 (br : Int), .int .i64 bn] 40) := by
    rw [hw0]; refine heapA3 (heapA3 ?_ _) _
    have := heap_alloc_new (w.alloc (.cells #[.int .u32 (pr : Int), .int .i64 pn, .int .i64 sl, .bool ha, .int .u32 (vr : Int), .int .i64 vn, .int .i64 k, .int .i64 s, .int .i64 q, .slice A1 rs.length c1, .slice A2 ws.length c2, .int .i64 i, .int .i64 j, .int .i64 g, .int .u64 (st : Int), .bool y] 43)) (.cells #[.int .u32 (br : Int), .int .i64 bn] 40)
    simpa using this
  have Zx : w0.heap[w.heap.size + 2]? = some (.cells #[.int .i64 xk, .int .i64 xs, .int .i64 xq, .slice X1 xr.length d1, .slice X2 xw.length d2, .int .i64 xi, .int .i64 xj, .int .i64 xg, .int .u64 (xst : Int), .bool xy] 41) := by
    rw [hw0]; refine heapA3 ?_ _
    have := heap_alloc_new ((w.alloc (.cells #[.int .u32 (pr : Int), .int .i64 pn, .int .i64 sl, .bool ha, .int .u32 (vr : Int), .int .i64 vn, .int .i64 k, .int .i64 s, .int .i64 q, .slice A1 rs.length c1, .slice A2 ws.length c2, .int .i64 i, .int .i64 j, .int .i64 g, .int .u64 (st : Int), .bool y] 43)).alloc (.cells #[.int .u32 (br : Int), .int .i64 bn] 40)) (.cells #[.int .i64 xk, .int .i64 xs, .int .i64 xq, .slice X1 xr.length d1, .slice X2 xw.length d2, .int .i64 xi, .int .i64 xj, .int .i64 xg, .int .u64 (xst : Int), .bool xy] 41)
    simpa using this
  have Zr : w0.heap[w.heap.size + 3]? = some (.cells #[.int .u32 0, .int .i64 0, .int .i64 0, .bool false, .int .u32 0, .int .i64 0, .int .i64 0, .int .i64 0, .int .i64 0, .slice none 0 0, .slice none 0 0, .int .i64 0, .int .i64 0, .int .i64 0, .int .u64 0, .bool false] 43) := by
    rw [hw0]
    have := heap_alloc_new (((w.alloc (.cells #[.int .u32 (pr : Int), .int .i64 pn, .int .i64 sl, .bool ha, .int .u32 (vr : Int), .int .i64 vn, .int .i64 k, .int .i64 s, .int .i64 q, .slice A1 rs.length c1, .slice A2 ws.length c2, .int .i64 i, .int .i64 j, .int .i64 g, .int .u64 (st : Int), .bool y] 43)).alloc (.cells #[.int .u32 (br : Int), .int .i64 bn] 40)).alloc (.cells #[.int .i64 xk, .int .i64 xs, .int .i64 xq, .slice X1 xr.length d1, .slice X2 xw.length d2, .int .i64 xi, .int .i64 xj, .int .i64 xg, .int .u64 (xst : Int), .bool xy] 41)) (.cells #[.int .u32 0, .int .i64 0, .int .i64 0, .bool false, .int .u32 0, .int .i64 0, .int .i64 0, .int .i64 0, .int .i64 0, .slice none 0 0, .slice none 0 0, .int .i64 0, .int .i64 0, .int .i64 0, .int .u64 0, .bool false] 43)
    simpa using this
  have gB := g0.size
  have HA := Lib.hid (rmay_any pr pn sl ha vr vn k s q rs ws A1 c1 A2 c2 i j g st y br bn w0 B0 (by omega) (ok.below g0 hB))
  have HX := Lib.hid (fun z (hz : Below w0.heap.size w0 z) => rcformed_any xk xs xq xr xw X1 d1 X2 d2 xi xj xg xst xy z B0 (by have := hz.size; omega) ((okx.below g0 hB).below hz (by omega)))
  have HM := Lib.hid hm
  generalize T.may pr pn sl ha vr vn k s q rs ws i j g st y br bn = m1 at HA HM
  generalize T.cformed xk xs xq xr xw xi xj xg xst xy = m2 at HX HM
  clear ok okx hm
  generalize rs.length = n1 at *
  generalize ws.length = n2 at *
  generalize xr.length = mm1 at *
  generalize xw.length = mm2 at *
  have a0 := cellAt Za 0
  have a1 := cellAt Za 1
  have a2 := cellAt Za 2
  have a3 := cellAt Za 3
  have a4 := cellAt Za 4
  have a5 := cellAt Za 5
  have a6 := cellAt Za 6
  have a7 := cellAt Za 7
  have a8 := cellAt Za 8
  have a9 := cellAt Za 9
  have a10 := cellAt Za 10
  have a11 := cellAt Za 11
  have a12 := cellAt Za 12
  have a13 := cellAt Za 13
  have a14 := cellAt Za 14
  have a15 := cellAt Za 15
  simp only [List.getElem?_toArray, List.getElem?_cons_zero, List.getElem?_cons_succ] at a0 a1 a2 a3 a4 a5 a6 a7 a8 a9 a10 a11 a12 a13 a14 a15
  have b0 := cellAt Zb 0
  have b1 := cellAt Zb 1
  simp only [List.getElem?_toArray, List.getElem?_cons_zero, List.getElem?_cons_succ] at b0 b1
  have x0 := cellAt Zx 0
  have x1 := cellAt Zx 1
  have x2 := cellAt Zx 2
  have x3 := cellAt Zx 3
  have x4 := cellAt Zx 4
  have x5 := cellAt Zx 5
  have x6 := cellAt Zx 6
  have x7 := cellAt Zx 7
  have x8 := cellAt Zx 8
  have x9 := cellAt Zx 9
  simp only [List.getElem?_toArray, List.getElem?_cons_zero, List.getElem?_cons_succ] at x0 x1 x2 x3 x4 x5 x6 x7 x8 x9
  go_enter Tryd.func67, Tryd.ntmps67
  go_upto_region 1 with fail
  rw [← hw0]
  clear hw0
  go_cut [18] (fun u wx => u = .bool false ∧ Hid (wx.heap[w.heap.size]? = some (.cells #[.int .u32 (pr : Int), .int .i64 pn, .int .i64 sl, .bool ha, .int .u32 (vr : Int), .int .i64 vn, .int .i64 k, .int .i64 s, .int .i64 q, .slice A1 n1 c1, .slice A2 n2 c2, .int .i64 i, .int .i64 j, .int .i64 g, .int .u64 (st : Int), .bool y] 43)) ∧ Hid (wx.heap[w.heap.size + 1]? = some (.cells #[.int .u32 (br : Int), .int .i64 bn] 40)) ∧ Hid (wx.heap[w.heap.size + 2]? = some (.cells #[.int .i64 xk, .int .i64 xs, .int .i64 xq, .slice X1 mm1 d1, .slice X2 mm2 d2, .int .i64 xi, .int .i64 xj, .int .i64 xg, .int .u64 (xst : Int), .bool xy] 41)) ∧ Hid (wx.heap[w.heap.size + 3]? = some (.cells #[.int .u32 0, .int .i64 0, .int .i64 0, .bool false, .int .u32 0, .int .i64 0, .int .i64 0, .int .i64 0, .int .i64 0, .slice none 0 0, .slice none 0 0, .int .i64 0, .int .i64 0, .int .i64 0, .int .u64 0, .bool false] 43)) ∧ Hid (Below w.heap.size w wx))
  case first =>
    go_wp2_with fail
    refine HA.out.mono ?_
    rintro e w1 ⟨rfl, t1⟩
    have x0 := cellB t1 x0
    have x1 := cellB t1 x1
    have x2 := cellB t1 x2
    have x3 := cellB t1 x3
    have x4 := cellB t1 x4
    have x5 := cellB t1 x5
    have x6 := cellB t1 x6
    have x7 := cellB t1 x7
    have x8 := cellB t1 x8
    have x9 := cellB t1 x9
    have e1 := g0.trans (t1.mono gB)
    have s1 := t1.size
    have h1 : m1 = true ∧ m2 = true := by have := HM.out; rw [Bool.and_eq_true] at this; exact this
    obtain ⟨rfl, rfl⟩ := h1
    go_wp2_with fail
    refine (HX.out w1 t1).mono ?_
    rintro e w2 ⟨rfl, t2⟩
    have e2 := e1.trans (t2.mono (by omega))
    go_wp2_with fail
    go_meet
    exact ⟨rfl, heapB3 (heapB3 Za t1) t2, heapB3 (heapB3 Zb t1) t2, heapB3 (heapB3 Zx t1) t2, heapB3 (heapB3 Zr t1) t2, e2⟩
  case rest =>
    obtain ⟨rfl, Za, Zb, Zx, Zr, e1⟩ := hcut
    have nm : ∀ z : World, Below w.heap.size w z → ∃ z', z' = z := fun z _ => ⟨z, rfl⟩
    obtain ⟨wx, hwx⟩ := nm _ e1.out
    subst hwx
    clear nm g0 gB HA HM HX a0 a1 a2 a3 a4 a5 a6 a7 a8 a9 a10 a11 a12 a13 a14 a15 b0 b1 x0 x1 x2 x3 x4 x5 x6 x7 x8 x9
    have Za := Za.out
    have Zb := Zb.out
    have Zx := Zx.out
    have Zr := Zr.out
    have e1 := e1.out
    have a2 := cellAt Za 2
    simp only [List.getElem?_toArray, List.getElem?_cons_zero, List.getElem?_cons_succ] at a2
    have f1 : decide (sn < sl) = true := by simpa using hs
    go_upto_region 4 with fail
    refine wp_region_lit ?_
    refine wpList_load_mid rfl 43 _ rfl w.heap.size 0 rfl [.int .u32 (pr : Int), .int .i64 pn, .int .i64 sl, .bool ha, .int .u32 (vr : Int), .int .i64 vn, .int .i64 k, .int .i64 s, .int .i64 q, .slice A1 n1 c1, .slice A2 n2 c2, .int .i64 i, .int .i64 j, .int .i64 g, .int .u64 (st : Int), .bool y] _ (rangeOf Za) Tryd.underlying43 rfl info16r ?_
    refine wpList_store_row rfl 43 _ _ rfl (w.heap.size + 3) #[.int .u32 (pr : Int), .int .i64 pn, .int .i64 sl, .bool ha, .int .u32 (vr : Int), .int .i64 vn, .int .i64 k, .int .i64 s, .int .i64 q, .slice A1 n1 c1, .slice A2 n2 c2, .int .i64 i, .int .i64 j, .int .i64 g, .int .u64 (st : Int), .bool y] rfl rfl 43 _ Zr info16r rfl (by simp [Value.oneCell']) ?_
    have Zf := setRow_heap wx (w.heap.size + 3) _ #[.int .u32 (pr : Int), .int .i64 pn, .int .i64 sl, .bool ha, .int .u32 (vr : Int), .int .i64 vn, .int .i64 k, .int .i64 s, .int .i64 q, .slice A1 n1 c1, .slice A2 n2 c2, .int .i64 i, .int .i64 j, .int .i64 g, .int .u64 (st : Int), .bool y] _ _ Zr
    have BZ : Below w.heap.size w (wx.setRow (w.heap.size + 3) #[.int .u32 (pr : Int), .int .i64 pn, .int .i64 sl, .bool ha, .int .u32 (vr : Int), .int .i64 vn, .int .i64 k, .int .i64 s, .int .i64 q, .slice A1 n1 c1, .slice A2 n2 c2, .int .i64 i, .int .i64 j, .int .i64 g, .int .u64 (st : Int), .bool y]) := belowRow e1 Zr (by omega)
    clear Za Zr
    generalize wx.setRow (w.heap.size + 3) #[.int .u32 (pr : Int), .int .i64 pn, .int .i64 sl, .bool ha, .int .u32 (vr : Int), .int .i64 vn, .int .i64 k, .int .i64 s, .int .i64 q, .slice A1 n1 c1, .slice A2 n2 c2, .int .i64 i, .int .i64 j, .int .i64 g, .int .u64 (st : Int), .bool y] = wz at Zf BZ ⊢
    have r0 := cellAt Zf 0
    have r1 := cellAt Zf 1
    have r2 := cellAt Zf 2
    have r3 := cellAt Zf 3
    have r4 := cellAt Zf 4
    have r5 := cellAt Zf 5
    have r6 := cellAt Zf 6
    have r7 := cellAt Zf 7
    have r8 := cellAt Zf 8
    have r9 := cellAt Zf 9
    have r10 := cellAt Zf 10
    have r11 := cellAt Zf 11
    have r12 := cellAt Zf 12
    have r13 := cellAt Zf 13
    have r14 := cellAt Zf 14
    have r15 := cellAt Zf 15
    simp only [List.getElem?_toArray, List.getElem?_cons_zero, List.getElem?_cons_succ] at r0 r1 r2 r3 r4 r5 r6 r7 r8 r9 r10 r11 r12 r13 r14 r15
    go_wp2_with fail
    refine bodyPost_ret (v := .tuple #[.agg #[.int .u32 (pr : Int), .int .i64 pn, .int .i64 sl, .bool ha, .int .u32 (vr : Int), .int .i64 vn, .int .i64 k, .int .i64 s, .int .i64 q, .slice A1 n1 c1, .slice A2 n2 c2, .int .i64 i, .int .i64 j, .int .i64 g, .int .u64 (st : Int), .bool y], .int .i64 1]) (by simp [results, Tryd.results67, go_sem, r0, r1, r2, r3, r4, r5, r6, r7, r8, r9, r10, r11, r12, r13, r14, r15]) rfl ⟨rfl, BZ⟩
set_option maxRecDepth 20000 in
set_option maxHeartbeats 6400000 in
theorem raccept_2 (pr : Nat) (pn sl : Int) (ha : Bool) (vr : Nat) (vn : Int) (k s q : Int) (rs : List Rd1) (ws : List Wr1) (A1 : Option Addr) (c1 : Nat) (A2 : Option Addr) (c2 : Nat) (i j g : Int) (st : Nat) (y : Bool) (br : Nat) (bn : Int) (sn : Int) (xk xs xq : Int) (xr : List Rd1) (xw : List Wr1) (X1 : Option Addr) (d1 : Nat) (X2 : Option Addr) (d2 : Nat) (xi xj xg : Int) (xst : Nat) (xy : Bool) (w : World) (B0 : Nat) (hB : B0 ≤ w.heap.size) (ok : TxOk w B0 rs ws A1 c1 A2 c2) (okx : TxOk w B0 xr xw X1 d1 X2 d2) (hm : (T.may pr pn sl ha vr vn k s q rs ws i j g st y br bn && T.cformed xk xs xq xr xw xi xj xg xst xy) = true) (hs : sl < sn) :
    Calls Tryd.prog 67 #[.agg #[.int .u32 (pr : Int), .int .i64 pn, .int .i64 sl, .bool ha, .int .u32 (vr : Int), .int .i64 vn, .int .i64 k, .int .i64 s, .int .i64 q, .slice A1 rs.length c1, .slice A2 ws.length c2, .int .i64 i, .int .i64 j, .int .i64 g, .int .u64 (st : Int), .bool y], .agg #[.int .u32 (br : Int), .int .i64 bn], .int .i64 sn, .agg #[.int .i64 xk, .int .i64 xs, .int .i64 xq, .slice X1 xr.length d1, .slice X2 xw.length d2, .int .i64 xi, .int .i64 xj, .int .i64 xg, .int .u64 (xst : Int), .bool xy]] w fun e w' => e = .returned (.tuple #[.agg #[.int .u32 (pr : Int), .int .i64 pn, .int .i64 sl, .bool ha, .int .u32 (vr : Int), .int .i64 vn, .int .i64 k, .int .i64 s, .int .i64 q, .slice A1 rs.length c1, .slice A2 ws.length c2, .int .i64 i, .int .i64 j, .int .i64 g, .int .u64 (st : Int), .bool y], .int .i64 2]) ∧ Below w.heap.size w w' := by
  obtain ⟨w0, hw0⟩ : ∃ w0, w0 = (((w.alloc (.cells #[.int .u32 (pr : Int), .int .i64 pn, .int .i64 sl, .bool ha, .int .u32 (vr : Int), .int .i64 vn, .int .i64 k, .int .i64 s, .int .i64 q, .slice A1 rs.length c1, .slice A2 ws.length c2, .int .i64 i, .int .i64 j, .int .i64 g, .int .u64 (st : Int), .bool y] 43)).alloc (.cells #[.int .u32 (br : Int), .int .i64 bn] 40)).alloc (.cells #[.int .i64 xk, .int .i64 xs, .int .i64 xq, .slice X1 xr.length d1, .slice X2 xw.length d2, .int .i64 xi, .int .i64 xj, .int .i64 xg, .int .u64 (xst : Int), .bool xy] 41)).alloc (.cells #[.int .u32 0, .int .i64 0, .int .i64 0, .bool false, .int .u32 0, .int .i64 0, .int .i64 0, .int .i64 0, .int .i64 0, .slice none 0 0, .slice none 0 0, .int .i64 0, .int .i64 0, .int .i64 0, .int .u64 0, .bool false] 43) := ⟨_, rfl⟩
  have g0 : Below w.heap.size w w0 := by rw [hw0]; exact ((((Below.refl _ _).alloc (Nat.le_refl _) _).alloc (by simp) _).alloc (by simp; omega) _).alloc (by simp; omega) _
  have Za : w0.heap[w.heap.size]? = some (.cells #[.int .u32 (pr : Int), .int .i64 pn, .int .i64 sl, .bool ha, .int .u32 (vr : Int), .int .i64 vn, .int .i64 k, .int .i64 s, .int .i64 q, .slice A1 rs.length c1, .slice A2 ws.length c2, .int .i64 i, .int .i64 j, .int .i64 g, .int .u64 (st : Int), .bool y] 43) := by rw [hw0]; exact heapA3 (heapA3 (heapA3 (heap_alloc_new w _) _) _) _
  have Zb : w0.heap[w.heap.size + 1]? = some (.cells #[.int .u32 (br : Int), .int .i64 bn] 40) := by
    rw [hw0]; refine heapA3 (heapA3 ?_ _) _
    have := heap_alloc_new (w.alloc (.cells #[.int .u32 (pr : Int), .int .i64 pn, .int .i64 sl, .bool ha, .int .u32 (vr : Int), .int .i64 vn, .int .i64 k, .int .i64 s, .int .i64 q, .slice A1 rs.length c1, .slice A2 ws.length c2, .int .i64 i, .int .i64 j, .int .i64 g, .int .u64 (st : Int), .bool y] 43)) (.cells #[.int .u32 (br : Int), .int .i64 bn] 40)
    simpa using this
  have Zx : w0.heap[w.heap.size + 2]? = some (.cells #[.int .i64 xk, .int .i64 xs, .int .i64 xq, .slice X1 xr.length d1, .slice X2 xw.length d2, .int .i64 xi, .int .i64 xj, .int .i64 xg, .int .u64 (xst : Int), .bool xy] 41) := by
    rw [hw0]; refine heapA3 ?_ _
    have := heap_alloc_new ((w.alloc (.cells #[.int .u32 (pr : Int), .int .i64 pn, .int .i64 sl, .bool ha, .int .u32 (vr : Int), .int .i64 vn, .int .i64 k, .int .i64 s, .int .i64 q, .slice A1 rs.length c1, .slice A2 ws.length c2, .int .i64 i, .int .i64 j, .int .i64 g, .int .u64 (st : Int), .bool y] 43)).alloc (.cells #[.int .u32 (br : Int), .int .i64 bn] 40)) (.cells #[.int .i64 xk, .int .i64 xs, .int .i64 xq, .slice X1 xr.length d1, .slice X2 xw.length d2, .int .i64 xi, .int .i64 xj, .int .i64 xg, .int .u64 (xst : Int), .bool xy] 41)
    simpa using this
  have Zr : w0.heap[w.heap.size + 3]? = some (.cells #[.int .u32 0, .int .i64 0, .int .i64 0, .bool false, .int .u32 0, .int .i64 0, .int .i64 0, .int .i64 0, .int .i64 0, .slice none 0 0, .slice none 0 0, .int .i64 0, .int .i64 0, .int .i64 0, .int .u64 0, .bool false] 43) := by
    rw [hw0]
    have := heap_alloc_new (((w.alloc (.cells #[.int .u32 (pr : Int), .int .i64 pn, .int .i64 sl, .bool ha, .int .u32 (vr : Int), .int .i64 vn, .int .i64 k, .int .i64 s, .int .i64 q, .slice A1 rs.length c1, .slice A2 ws.length c2, .int .i64 i, .int .i64 j, .int .i64 g, .int .u64 (st : Int), .bool y] 43)).alloc (.cells #[.int .u32 (br : Int), .int .i64 bn] 40)).alloc (.cells #[.int .i64 xk, .int .i64 xs, .int .i64 xq, .slice X1 xr.length d1, .slice X2 xw.length d2, .int .i64 xi, .int .i64 xj, .int .i64 xg, .int .u64 (xst : Int), .bool xy] 41)) (.cells #[.int .u32 0, .int .i64 0, .int .i64 0, .bool false, .int .u32 0, .int .i64 0, .int .i64 0, .int .i64 0, .int .i64 0, .slice none 0 0, .slice none 0 0, .int .i64 0, .int .i64 0, .int .i64 0, .int .u64 0, .bool false] 43)
    simpa using this
  have gB := g0.size
  have HA := Lib.hid (rmay_any pr pn sl ha vr vn k s q rs ws A1 c1 A2 c2 i j g st y br bn w0 B0 (by omega) (ok.below g0 hB))
  have HX := Lib.hid (fun z (hz : Below w0.heap.size w0 z) => rcformed_any xk xs xq xr xw X1 d1 X2 d2 xi xj xg xst xy z B0 (by have := hz.size; omega) ((okx.below g0 hB).below hz (by omega)))
  have HM := Lib.hid hm
  generalize T.may pr pn sl ha vr vn k s q rs ws i j g st y br bn = m1 at HA HM
  generalize T.cformed xk xs xq xr xw xi xj xg xst xy = m2 at HX HM
  clear ok okx hm
  generalize rs.length = n1 at *
  generalize ws.length = n2 at *
  generalize xr.length = mm1 at *
  generalize xw.length = mm2 at *
  have a0 := cellAt Za 0
  have a1 := cellAt Za 1
  have a2 := cellAt Za 2
  have a3 := cellAt Za 3
  have a4 := cellAt Za 4
  have a5 := cellAt Za 5
  have a6 := cellAt Za 6
  have a7 := cellAt Za 7
  have a8 := cellAt Za 8
  have a9 := cellAt Za 9
  have a10 := cellAt Za 10
  have a11 := cellAt Za 11
  have a12 := cellAt Za 12
  have a13 := cellAt Za 13
  have a14 := cellAt Za 14
  have a15 := cellAt Za 15
  simp only [List.getElem?_toArray, List.getElem?_cons_zero, List.getElem?_cons_succ] at a0 a1 a2 a3 a4 a5 a6 a7 a8 a9 a10 a11 a12 a13 a14 a15
  have b0 := cellAt Zb 0
  have b1 := cellAt Zb 1
  simp only [List.getElem?_toArray, List.getElem?_cons_zero, List.getElem?_cons_succ] at b0 b1
  have x0 := cellAt Zx 0
  have x1 := cellAt Zx 1
  have x2 := cellAt Zx 2
  have x3 := cellAt Zx 3
  have x4 := cellAt Zx 4
  have x5 := cellAt Zx 5
  have x6 := cellAt Zx 6
  have x7 := cellAt Zx 7
  have x8 := cellAt Zx 8
  have x9 := cellAt Zx 9
  simp only [List.getElem?_toArray, List.getElem?_cons_zero, List.getElem?_cons_succ] at x0 x1 x2 x3 x4 x5 x6 x7 x8 x9
  go_enter Tryd.func67, Tryd.ntmps67
  go_upto_region 1 with fail
  rw [← hw0]
  clear hw0
  go_cut [18] (fun u wx => u = .bool false ∧ Hid (wx.heap[w.heap.size]? = some (.cells #[.int .u32 (pr : Int), .int .i64 pn, .int .i64 sl, .bool ha, .int .u32 (vr : Int), .int .i64 vn, .int .i64 k, .int .i64 s, .int .i64 q, .slice A1 n1 c1, .slice A2 n2 c2, .int .i64 i, .int .i64 j, .int .i64 g, .int .u64 (st : Int), .bool y] 43)) ∧ Hid (wx.heap[w.heap.size + 1]? = some (.cells #[.int .u32 (br : Int), .int .i64 bn] 40)) ∧ Hid (wx.heap[w.heap.size + 2]? = some (.cells #[.int .i64 xk, .int .i64 xs, .int .i64 xq, .slice X1 mm1 d1, .slice X2 mm2 d2, .int .i64 xi, .int .i64 xj, .int .i64 xg, .int .u64 (xst : Int), .bool xy] 41)) ∧ Hid (wx.heap[w.heap.size + 3]? = some (.cells #[.int .u32 0, .int .i64 0, .int .i64 0, .bool false, .int .u32 0, .int .i64 0, .int .i64 0, .int .i64 0, .int .i64 0, .slice none 0 0, .slice none 0 0, .int .i64 0, .int .i64 0, .int .i64 0, .int .u64 0, .bool false] 43)) ∧ Hid (Below w.heap.size w wx))
  case first =>
    go_wp2_with fail
    refine HA.out.mono ?_
    rintro e w1 ⟨rfl, t1⟩
    have x0 := cellB t1 x0
    have x1 := cellB t1 x1
    have x2 := cellB t1 x2
    have x3 := cellB t1 x3
    have x4 := cellB t1 x4
    have x5 := cellB t1 x5
    have x6 := cellB t1 x6
    have x7 := cellB t1 x7
    have x8 := cellB t1 x8
    have x9 := cellB t1 x9
    have e1 := g0.trans (t1.mono gB)
    have s1 := t1.size
    have h1 : m1 = true ∧ m2 = true := by have := HM.out; rw [Bool.and_eq_true] at this; exact this
    obtain ⟨rfl, rfl⟩ := h1
    go_wp2_with fail
    refine (HX.out w1 t1).mono ?_
    rintro e w2 ⟨rfl, t2⟩
    have e2 := e1.trans (t2.mono (by omega))
    go_wp2_with fail
    go_meet
    exact ⟨rfl, heapB3 (heapB3 Za t1) t2, heapB3 (heapB3 Zb t1) t2, heapB3 (heapB3 Zx t1) t2, heapB3 (heapB3 Zr t1) t2, e2⟩
  case rest =>
    obtain ⟨rfl, Za, Zb, Zx, Zr, e1⟩ := hcut
    have nm : ∀ z : World, Below w.heap.size w z → ∃ z', z' = z := fun z _ => ⟨z, rfl⟩
    obtain ⟨wx, hwx⟩ := nm _ e1.out
    subst hwx
    clear nm g0 gB HA HM HX a0 a1 a2 a3 a4 a5 a6 a7 a8 a9 a10 a11 a12 a13 a14 a15 b0 b1 x0 x1 x2 x3 x4 x5 x6 x7 x8 x9
    have Za := Za.out
    have Zb := Zb.out
    have Zx := Zx.out
    have Zr := Zr.out
    have e1 := e1.out
    have a2 := cellAt Za 2
    simp only [List.getElem?_toArray, List.getElem?_cons_zero, List.getElem?_cons_succ] at a2
    have f1 : decide (sn < sl) = false := by simp; omega
    have f2 : decide (sl < sn) = true := by simpa using hs
    go_upto_region 6 with fail
    refine wp_region_lit ?_
    refine wpList_load_mid rfl 43 _ rfl w.heap.size 0 rfl [.int .u32 (pr : Int), .int .i64 pn, .int .i64 sl, .bool ha, .int .u32 (vr : Int), .int .i64 vn, .int .i64 k, .int .i64 s, .int .i64 q, .slice A1 n1 c1, .slice A2 n2 c2, .int .i64 i, .int .i64 j, .int .i64 g, .int .u64 (st : Int), .bool y] _ (rangeOf Za) Tryd.underlying43 rfl info16r ?_
    refine wpList_store_row rfl 43 _ _ rfl (w.heap.size + 3) #[.int .u32 (pr : Int), .int .i64 pn, .int .i64 sl, .bool ha, .int .u32 (vr : Int), .int .i64 vn, .int .i64 k, .int .i64 s, .int .i64 q, .slice A1 n1 c1, .slice A2 n2 c2, .int .i64 i, .int .i64 j, .int .i64 g, .int .u64 (st : Int), .bool y] rfl rfl 43 _ Zr info16r rfl (by simp [Value.oneCell']) ?_
    have Zf := setRow_heap wx (w.heap.size + 3) _ #[.int .u32 (pr : Int), .int .i64 pn, .int .i64 sl, .bool ha, .int .u32 (vr : Int), .int .i64 vn, .int .i64 k, .int .i64 s, .int .i64 q, .slice A1 n1 c1, .slice A2 n2 c2, .int .i64 i, .int .i64 j, .int .i64 g, .int .u64 (st : Int), .bool y] _ _ Zr
    have BZ : Below w.heap.size w (wx.setRow (w.heap.size + 3) #[.int .u32 (pr : Int), .int .i64 pn, .int .i64 sl, .bool ha, .int .u32 (vr : Int), .int .i64 vn, .int .i64 k, .int .i64 s, .int .i64 q, .slice A1 n1 c1, .slice A2 n2 c2, .int .i64 i, .int .i64 j, .int .i64 g, .int .u64 (st : Int), .bool y]) := belowRow e1 Zr (by omega)
    clear Za Zr
    generalize wx.setRow (w.heap.size + 3) #[.int .u32 (pr : Int), .int .i64 pn, .int .i64 sl, .bool ha, .int .u32 (vr : Int), .int .i64 vn, .int .i64 k, .int .i64 s, .int .i64 q, .slice A1 n1 c1, .slice A2 n2 c2, .int .i64 i, .int .i64 j, .int .i64 g, .int .u64 (st : Int), .bool y] = wz at Zf BZ ⊢
    have r0 := cellAt Zf 0
    have r1 := cellAt Zf 1
    have r2 := cellAt Zf 2
    have r3 := cellAt Zf 3
    have r4 := cellAt Zf 4
    have r5 := cellAt Zf 5
    have r6 := cellAt Zf 6
    have r7 := cellAt Zf 7
    have r8 := cellAt Zf 8
    have r9 := cellAt Zf 9
    have r10 := cellAt Zf 10
    have r11 := cellAt Zf 11
    have r12 := cellAt Zf 12
    have r13 := cellAt Zf 13
    have r14 := cellAt Zf 14
    have r15 := cellAt Zf 15
    simp only [List.getElem?_toArray, List.getElem?_cons_zero, List.getElem?_cons_succ] at r0 r1 r2 r3 r4 r5 r6 r7 r8 r9 r10 r11 r12 r13 r14 r15
    go_wp2_with fail
    refine bodyPost_ret (v := .tuple #[.agg #[.int .u32 (pr : Int), .int .i64 pn, .int .i64 sl, .bool ha, .int .u32 (vr : Int), .int .i64 vn, .int .i64 k, .int .i64 s, .int .i64 q, .slice A1 n1 c1, .slice A2 n2 c2, .int .i64 i, .int .i64 j, .int .i64 g, .int .u64 (st : Int), .bool y], .int .i64 2]) (by simp [results, Tryd.results67, go_sem, r0, r1, r2, r3, r4, r5, r6, r7, r8, r9, r10, r11, r12, r13, r14, r15]) rfl ⟨rfl, BZ⟩
set_option maxRecDepth 20000 in
set_option maxHeartbeats 6400000 in
theorem raccept_3 (pr : Nat) (pn sl : Int) (ha : Bool) (vr : Nat) (vn : Int) (k s q : Int) (rs : List Rd1) (ws : List Wr1) (A1 : Option Addr) (c1 : Nat) (A2 : Option Addr) (c2 : Nat) (i j g : Int) (st : Nat) (y : Bool) (br : Nat) (bn : Int) (sn : Int) (xk xs xq : Int) (xr : List Rd1) (xw : List Wr1) (X1 : Option Addr) (d1 : Nat) (X2 : Option Addr) (d2 : Nat) (xi xj xg : Int) (xst : Nat) (xy : Bool) (w : World) (B0 : Nat) (hB : B0 ≤ w.heap.size) (ok : TxOk w B0 rs ws A1 c1 A2 c2) (okx : TxOk w B0 xr xw X1 d1 X2 d2) (hm : (T.may pr pn sl ha vr vn k s q rs ws i j g st y br bn && T.cformed xk xs xq xr xw xi xj xg xst xy) = true) (hs : sn = sl) :
    Calls Tryd.prog 67 #[.agg #[.int .u32 (pr : Int), .int .i64 pn, .int .i64 sl, .bool ha, .int .u32 (vr : Int), .int .i64 vn, .int .i64 k, .int .i64 s, .int .i64 q, .slice A1 rs.length c1, .slice A2 ws.length c2, .int .i64 i, .int .i64 j, .int .i64 g, .int .u64 (st : Int), .bool y], .agg #[.int .u32 (br : Int), .int .i64 bn], .int .i64 sn, .agg #[.int .i64 xk, .int .i64 xs, .int .i64 xq, .slice X1 xr.length d1, .slice X2 xw.length d2, .int .i64 xi, .int .i64 xj, .int .i64 xg, .int .u64 (xst : Int), .bool xy]] w fun e w' => e = .returned (.tuple #[.agg #[.int .u32 (br : Int), .int .i64 bn, .int .i64 sn, .bool true, .int .u32 (br : Int), .int .i64 bn, .int .i64 xk, .int .i64 xs, .int .i64 xq, .slice X1 xr.length d1, .slice X2 xw.length d2, .int .i64 xi, .int .i64 xj, .int .i64 xg, .int .u64 (xst : Int), .bool xy], .int .i64 3]) ∧ Below w.heap.size w w' := by
  obtain ⟨w0, hw0⟩ : ∃ w0, w0 = (((w.alloc (.cells #[.int .u32 (pr : Int), .int .i64 pn, .int .i64 sl, .bool ha, .int .u32 (vr : Int), .int .i64 vn, .int .i64 k, .int .i64 s, .int .i64 q, .slice A1 rs.length c1, .slice A2 ws.length c2, .int .i64 i, .int .i64 j, .int .i64 g, .int .u64 (st : Int), .bool y] 43)).alloc (.cells #[.int .u32 (br : Int), .int .i64 bn] 40)).alloc (.cells #[.int .i64 xk, .int .i64 xs, .int .i64 xq, .slice X1 xr.length d1, .slice X2 xw.length d2, .int .i64 xi, .int .i64 xj, .int .i64 xg, .int .u64 (xst : Int), .bool xy] 41)).alloc (.cells #[.int .u32 0, .int .i64 0, .int .i64 0, .bool false, .int .u32 0, .int .i64 0, .int .i64 0, .int .i64 0, .int .i64 0, .slice none 0 0, .slice none 0 0, .int .i64 0, .int .i64 0, .int .i64 0, .int .u64 0, .bool false] 43) := ⟨_, rfl⟩
  have g0 : Below w.heap.size w w0 := by rw [hw0]; exact ((((Below.refl _ _).alloc (Nat.le_refl _) _).alloc (by simp) _).alloc (by simp; omega) _).alloc (by simp; omega) _
  have Za : w0.heap[w.heap.size]? = some (.cells #[.int .u32 (pr : Int), .int .i64 pn, .int .i64 sl, .bool ha, .int .u32 (vr : Int), .int .i64 vn, .int .i64 k, .int .i64 s, .int .i64 q, .slice A1 rs.length c1, .slice A2 ws.length c2, .int .i64 i, .int .i64 j, .int .i64 g, .int .u64 (st : Int), .bool y] 43) := by rw [hw0]; exact heapA3 (heapA3 (heapA3 (heap_alloc_new w _) _) _) _
  have Zb : w0.heap[w.heap.size + 1]? = some (.cells #[.int .u32 (br : Int), .int .i64 bn] 40) := by
    rw [hw0]; refine heapA3 (heapA3 ?_ _) _
    have := heap_alloc_new (w.alloc (.cells #[.int .u32 (pr : Int), .int .i64 pn, .int .i64 sl, .bool ha, .int .u32 (vr : Int), .int .i64 vn, .int .i64 k, .int .i64 s, .int .i64 q, .slice A1 rs.length c1, .slice A2 ws.length c2, .int .i64 i, .int .i64 j, .int .i64 g, .int .u64 (st : Int), .bool y] 43)) (.cells #[.int .u32 (br : Int), .int .i64 bn] 40)
    simpa using this
  have Zx : w0.heap[w.heap.size + 2]? = some (.cells #[.int .i64 xk, .int .i64 xs, .int .i64 xq, .slice X1 xr.length d1, .slice X2 xw.length d2, .int .i64 xi, .int .i64 xj, .int .i64 xg, .int .u64 (xst : Int), .bool xy] 41) := by
    rw [hw0]; refine heapA3 ?_ _
    have := heap_alloc_new ((w.alloc (.cells #[.int .u32 (pr : Int), .int .i64 pn, .int .i64 sl, .bool ha, .int .u32 (vr : Int), .int .i64 vn, .int .i64 k, .int .i64 s, .int .i64 q, .slice A1 rs.length c1, .slice A2 ws.length c2, .int .i64 i, .int .i64 j, .int .i64 g, .int .u64 (st : Int), .bool y] 43)).alloc (.cells #[.int .u32 (br : Int), .int .i64 bn] 40)) (.cells #[.int .i64 xk, .int .i64 xs, .int .i64 xq, .slice X1 xr.length d1, .slice X2 xw.length d2, .int .i64 xi, .int .i64 xj, .int .i64 xg, .int .u64 (xst : Int), .bool xy] 41)
    simpa using this
  have Zr : w0.heap[w.heap.size + 3]? = some (.cells #[.int .u32 0, .int .i64 0, .int .i64 0, .bool false, .int .u32 0, .int .i64 0, .int .i64 0, .int .i64 0, .int .i64 0, .slice none 0 0, .slice none 0 0, .int .i64 0, .int .i64 0, .int .i64 0, .int .u64 0, .bool false] 43) := by
    rw [hw0]
    have := heap_alloc_new (((w.alloc (.cells #[.int .u32 (pr : Int), .int .i64 pn, .int .i64 sl, .bool ha, .int .u32 (vr : Int), .int .i64 vn, .int .i64 k, .int .i64 s, .int .i64 q, .slice A1 rs.length c1, .slice A2 ws.length c2, .int .i64 i, .int .i64 j, .int .i64 g, .int .u64 (st : Int), .bool y] 43)).alloc (.cells #[.int .u32 (br : Int), .int .i64 bn] 40)).alloc (.cells #[.int .i64 xk, .int .i64 xs, .int .i64 xq, .slice X1 xr.length d1, .slice X2 xw.length d2, .int .i64 xi, .int .i64 xj, .int .i64 xg, .int .u64 (xst : Int), .bool xy] 41)) (.cells #[.int .u32 0, .int .i64 0, .int .i64 0, .bool false, .int .u32 0, .int .i64 0, .int .i64 0, .int .i64 0, .int .i64 0, .slice none 0 0, .slice none 0 0, .int .i64 0, .int .i64 0, .int .i64 0, .int .u64 0, .bool false] 43)
    simpa using this
  have gB := g0.size
  have HA := Lib.hid (rmay_any pr pn sl ha vr vn k s q rs ws A1 c1 A2 c2 i j g st y br bn w0 B0 (by omega) (ok.below g0 hB))
  have HX := Lib.hid (fun z (hz : Below w0.heap.size w0 z) => rcformed_any xk xs xq xr xw X1 d1 X2 d2 xi xj xg xst xy z B0 (by have := hz.size; omega) ((okx.below g0 hB).below hz (by omega)))
  have HM := Lib.hid hm
  generalize T.may pr pn sl ha vr vn k s q rs ws i j g st y br bn = m1 at HA HM
  generalize T.cformed xk xs xq xr xw xi xj xg xst xy = m2 at HX HM
  clear ok okx hm
  generalize rs.length = n1 at *
  generalize ws.length = n2 at *
  generalize xr.length = mm1 at *
  generalize xw.length = mm2 at *
  have HSN := Lib.hid hs
  clear hs
  have a0 := cellAt Za 0
  have a1 := cellAt Za 1
  have a2 := cellAt Za 2
  have a3 := cellAt Za 3
  have a4 := cellAt Za 4
  have a5 := cellAt Za 5
  have a6 := cellAt Za 6
  have a7 := cellAt Za 7
  have a8 := cellAt Za 8
  have a9 := cellAt Za 9
  have a10 := cellAt Za 10
  have a11 := cellAt Za 11
  have a12 := cellAt Za 12
  have a13 := cellAt Za 13
  have a14 := cellAt Za 14
  have a15 := cellAt Za 15
  simp only [List.getElem?_toArray, List.getElem?_cons_zero, List.getElem?_cons_succ] at a0 a1 a2 a3 a4 a5 a6 a7 a8 a9 a10 a11 a12 a13 a14 a15
  have b0 := cellAt Zb 0
  have b1 := cellAt Zb 1
  simp only [List.getElem?_toArray, List.getElem?_cons_zero, List.getElem?_cons_succ] at b0 b1
  have x0 := cellAt Zx 0
  have x1 := cellAt Zx 1
  have x2 := cellAt Zx 2
  have x3 := cellAt Zx 3
  have x4 := cellAt Zx 4
  have x5 := cellAt Zx 5
  have x6 := cellAt Zx 6
  have x7 := cellAt Zx 7
  have x8 := cellAt Zx 8
  have x9 := cellAt Zx 9
  simp only [List.getElem?_toArray, List.getElem?_cons_zero, List.getElem?_cons_succ] at x0 x1 x2 x3 x4 x5 x6 x7 x8 x9
  go_enter Tryd.func67, Tryd.ntmps67
  go_upto_region 1 with fail
  rw [← hw0]
  clear hw0
  go_cut [18] (fun u wx => u = .bool false ∧ Hid (wx.heap[w.heap.size]? = some (.cells #[.int .u32 (pr : Int), .int .i64 pn, .int .i64 sl, .bool ha, .int .u32 (vr : Int), .int .i64 vn, .int .i64 k, .int .i64 s, .int .i64 q, .slice A1 n1 c1, .slice A2 n2 c2, .int .i64 i, .int .i64 j, .int .i64 g, .int .u64 (st : Int), .bool y] 43)) ∧ Hid (wx.heap[w.heap.size + 1]? = some (.cells #[.int .u32 (br : Int), .int .i64 bn] 40)) ∧ Hid (wx.heap[w.heap.size + 2]? = some (.cells #[.int .i64 xk, .int .i64 xs, .int .i64 xq, .slice X1 mm1 d1, .slice X2 mm2 d2, .int .i64 xi, .int .i64 xj, .int .i64 xg, .int .u64 (xst : Int), .bool xy] 41)) ∧ Hid (wx.heap[w.heap.size + 3]? = some (.cells #[.int .u32 0, .int .i64 0, .int .i64 0, .bool false, .int .u32 0, .int .i64 0, .int .i64 0, .int .i64 0, .int .i64 0, .slice none 0 0, .slice none 0 0, .int .i64 0, .int .i64 0, .int .i64 0, .int .u64 0, .bool false] 43)) ∧ Hid (Below w.heap.size w wx))
  case first =>
    go_wp2_with fail
    refine HA.out.mono ?_
    rintro e w1 ⟨rfl, t1⟩
    have x0 := cellB t1 x0
    have x1 := cellB t1 x1
    have x2 := cellB t1 x2
    have x3 := cellB t1 x3
    have x4 := cellB t1 x4
    have x5 := cellB t1 x5
    have x6 := cellB t1 x6
    have x7 := cellB t1 x7
    have x8 := cellB t1 x8
    have x9 := cellB t1 x9
    have e1 := g0.trans (t1.mono gB)
    have s1 := t1.size
    have h1 : m1 = true ∧ m2 = true := by have := HM.out; rw [Bool.and_eq_true] at this; exact this
    obtain ⟨rfl, rfl⟩ := h1
    go_wp2_with fail
    refine (HX.out w1 t1).mono ?_
    rintro e w2 ⟨rfl, t2⟩
    have e2 := e1.trans (t2.mono (by omega))
    go_wp2_with fail
    go_meet
    exact ⟨rfl, heapB3 (heapB3 Za t1) t2, heapB3 (heapB3 Zb t1) t2, heapB3 (heapB3 Zx t1) t2, heapB3 (heapB3 Zr t1) t2, e2⟩
  case rest =>
    obtain ⟨rfl, Za, Zb, Zx, Zr, e1⟩ := hcut
    have nm : ∀ z : World, Below w.heap.size w z → ∃ z', z' = z := fun z _ => ⟨z, rfl⟩
    obtain ⟨wx, hwx⟩ := nm _ e1.out
    subst hwx
    clear nm g0 gB HA HM HX a0 a1 a2 a3 a4 a5 a6 a7 a8 a9 a10 a11 a12 a13 a14 a15 b0 b1 x0 x1 x2 x3 x4 x5 x6 x7 x8 x9
    have Za := Za.out
    have Zb := Zb.out
    have Zx := Zx.out
    have Zr := Zr.out
    have e1 := e1.out
    have a2 := cellAt Za 2
    simp only [List.getElem?_toArray, List.getElem?_cons_zero, List.getElem?_cons_succ] at a2
    have hs := HSN.out
    have f1 : decide (sn < sl) = false := by simp; omega
    have f2 : decide (sl < sn) = false := by simp; omega
    clear hs
    have b0 := cellAt Zb 0
    have b1 := cellAt Zb 1
    simp only [List.getElem?_toArray, List.getElem?_cons_zero, List.getElem?_cons_succ] at b0 b1
    have x0 := cellAt Zx 0
    have x1 := cellAt Zx 1
    have x2 := cellAt Zx 2
    have x3 := cellAt Zx 3
    have x4 := cellAt Zx 4
    have x5 := cellAt Zx 5
    have x6 := cellAt Zx 6
    have x7 := cellAt Zx 7
    have x8 := cellAt Zx 8
    have x9 := cellAt Zx 9
    simp only [List.getElem?_toArray, List.getElem?_cons_zero, List.getElem?_cons_succ] at x0 x1 x2 x3 x4 x5 x6 x7 x8 x9
    go_upto_region 7 with fail
    refine wp_region_lit ?_
    refine wpList_plain rfl fun K hK => ?_
    go_simp
    refine hK _ _ ?_
    clear hK K
    try simp only [List.getElem_toArray, List.getElem_cons_zero, List.getElem_cons_succ, Act.put, List.setIfInBounds_toArray, List.set_cons_zero, List.set_cons_succ]
    refine wpList_plain rfl fun K hK => ?_
    go_simp
    refine hK _ _ ?_
    clear hK K
    try simp only [List.getElem_toArray, List.getElem_cons_zero, List.getElem_cons_succ, Act.put, List.setIfInBounds_toArray, List.set_cons_zero, List.set_cons_succ]
    refine wpList_plain rfl fun K hK => ?_
    go_simp
    refine hK _ _ ?_
    clear hK K
    try simp only [List.getElem_toArray, List.getElem_cons_zero, List.getElem_cons_succ, Act.put, List.setIfInBounds_toArray, List.set_cons_zero, List.set_cons_succ]
    refine wpList_plain rfl fun K hK => ?_
    go_simp
    refine hK _ _ ?_
    clear hK K
    try simp only [List.getElem_toArray, List.getElem_cons_zero, List.getElem_cons_succ, Act.put, List.setIfInBounds_toArray, List.set_cons_zero, List.set_cons_succ]
    refine wpList_plain rfl fun K hK => ?_
    go_simp
    refine hK _ _ ?_
    clear hK K
    try simp only [List.getElem_toArray, List.getElem_cons_zero, List.getElem_cons_succ, Act.put, List.setIfInBounds_toArray, List.set_cons_zero, List.set_cons_succ]
    refine wpList_store_row rfl 43 _ _ rfl (w.heap.size + 3) #[.int .u32 (br : Int), .int .i64 bn, .int .i64 sn, .bool true, .int .u32 (br : Int), .int .i64 bn, .int .i64 xk, .int .i64 xs, .int .i64 xq, .slice X1 mm1 d1, .slice X2 mm2 d2, .int .i64 xi, .int .i64 xj, .int .i64 xg, .int .u64 (xst : Int), .bool xy] rfl rfl 43 _ Zr info16r rfl (by simp [Value.oneCell']) ?_
    have Zf := setRow_heap wx (w.heap.size + 3) _ #[.int .u32 (br : Int), .int .i64 bn, .int .i64 sn, .bool true, .int .u32 (br : Int), .int .i64 bn, .int .i64 xk, .int .i64 xs, .int .i64 xq, .slice X1 mm1 d1, .slice X2 mm2 d2, .int .i64 xi, .int .i64 xj, .int .i64 xg, .int .u64 (xst : Int), .bool xy] _ _ Zr
    have BZ : Below w.heap.size w (wx.setRow (w.heap.size + 3) #[.int .u32 (br : Int), .int .i64 bn, .int .i64 sn, .bool true, .int .u32 (br : Int), .int .i64 bn, .int .i64 xk, .int .i64 xs, .int .i64 xq, .slice X1 mm1 d1, .slice X2 mm2 d2, .int .i64 xi, .int .i64 xj, .int .i64 xg, .int .u64 (xst : Int), .bool xy]) := belowRow e1 Zr (by omega)
    clear Za Zr Zb Zx a2 b0 b1 x0 x1 x2 x3 x4 x5 x6 x7 x8 x9
    generalize wx.setRow (w.heap.size + 3) #[.int .u32 (br : Int), .int .i64 bn, .int .i64 sn, .bool true, .int .u32 (br : Int), .int .i64 bn, .int .i64 xk, .int .i64 xs, .int .i64 xq, .slice X1 mm1 d1, .slice X2 mm2 d2, .int .i64 xi, .int .i64 xj, .int .i64 xg, .int .u64 (xst : Int), .bool xy] = wz at Zf BZ ⊢
    have r0 := cellAt Zf 0
    have r1 := cellAt Zf 1
    have r2 := cellAt Zf 2
    have r3 := cellAt Zf 3
    have r4 := cellAt Zf 4
    have r5 := cellAt Zf 5
    have r6 := cellAt Zf 6
    have r7 := cellAt Zf 7
    have r8 := cellAt Zf 8
    have r9 := cellAt Zf 9
    have r10 := cellAt Zf 10
    have r11 := cellAt Zf 11
    have r12 := cellAt Zf 12
    have r13 := cellAt Zf 13
    have r14 := cellAt Zf 14
    have r15 := cellAt Zf 15
    simp only [List.getElem?_toArray, List.getElem?_cons_zero, List.getElem?_cons_succ] at r0 r1 r2 r3 r4 r5 r6 r7 r8 r9 r10 r11 r12 r13 r14 r15
    go_wp2_with fail
    refine bodyPost_ret (v := .tuple #[.agg #[.int .u32 (br : Int), .int .i64 bn, .int .i64 sn, .bool true, .int .u32 (br : Int), .int .i64 bn, .int .i64 xk, .int .i64 xs, .int .i64 xq, .slice X1 mm1 d1, .slice X2 mm2 d2, .int .i64 xi, .int .i64 xj, .int .i64 xg, .int .u64 (xst : Int), .bool xy], .int .i64 3]) (by simp [results, Tryd.results67, go_sem, r0, r1, r2, r3, r4, r5, r6, r7, r8, r9, r10, r11, r12, r13, r14, r15]) rfl ⟨rfl, BZ⟩
end Go.Proofs.YtbahooohkigcnaaDoor
