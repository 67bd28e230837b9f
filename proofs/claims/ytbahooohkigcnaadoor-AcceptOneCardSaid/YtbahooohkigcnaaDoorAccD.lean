/- The walks of accept.Learn and of the reference's. Conditions: what lies, lies below; the tables lie. (Printed by gen_accd.py.) -/
import Derived.Test.YtbahooohkigcnaaDoorAccB
namespace Go.Proofs.YtbahooohkigcnaaDoor
set_option maxRecDepth 20000
open Go.RowKit T
set_option linter.unusedSimpArgs false
set_option linter.unusedVariables false

theorem info16l : (Tryd.prog.info? 43).map (·.size) = some 16 := by kernel_rfl
/-- does an acceptor learn in a slot? -/
def T.learns (pr : Nat) (pn sl : Int) (ha : Bool) (vr : Nat) (vn : Int) (k s q : Int) (rs : List Rd1) (ws : List Wr1) (i j g : Int) (st : Nat) (y : Bool) (sn : Int) : Bool :=
  T.aformed pr pn sl ha vr vn k s q rs ws i j g st y && decide (sn = sl) && decide (sn ≠ 1000000)
theorem T.aformed_slot {pr : Nat} {pn sl : Int} {ha : Bool} {vr : Nat} {vn : Int} {k s q : Int} {rs : List Rd1} {ws : List Wr1} {i j g : Int} {st : Nat} {y : Bool} (h : T.aformed pr pn sl ha vr vn k s q rs ws i j g st y = true) : 1 ≤ sl ∧ sl ≤ 1000000 := by
  unfold T.aformed at h
  rw [Bool.and_eq_true, Bool.and_eq_true] at h
  exact of_decide_eq_true h.1.2
set_option maxRecDepth 20000 in
set_option maxHeartbeats 6400000 in
theorem learn_no (pr : Nat) (pn sl : Int) (ha : Bool) (vr : Nat) (vn : Int) (k s q : Int) (rs : List Rd1) (ws : List Wr1) (A1 : Option Addr) (c1 : Nat) (A2 : Option Addr) (c2 : Nat) (i j g : Int) (st : Nat) (y : Bool) (sn : Int) (w : World) (B0 : Nat) (hB : B0 ≤ w.heap.size) (ok : TxOk w B0 rs ws A1 c1 A2 c2) (hT : Tabs w) (hm : T.learns pr pn sl ha vr vn k s q rs ws i j g st y sn = false) :
    Calls Tryd.prog 68 #[.agg #[.int .u32 (pr : Int), .int .i64 pn, .int .i64 sl, .bool ha, .int .u32 (vr : Int), .int .i64 vn, .int .i64 k, .int .i64 s, .int .i64 q, .slice A1 rs.length c1, .slice A2 ws.length c2, .int .i64 i, .int .i64 j, .int .i64 g, .int .u64 (st : Int), .bool y], .int .i64 sn] w fun e w' => e = .returned (.tuple #[.agg #[.int .u32 (pr : Int), .int .i64 pn, .int .i64 sl, .bool ha, .int .u32 (vr : Int), .int .i64 vn, .int .i64 k, .int .i64 s, .int .i64 q, .slice A1 rs.length c1, .slice A2 ws.length c2, .int .i64 i, .int .i64 j, .int .i64 g, .int .u64 (st : Int), .bool y], .bool false]) ∧ Below w.heap.size w w' := by
  obtain ⟨w0, hw0⟩ : ∃ w0, w0 = (w.alloc (.cells #[.int .u32 (pr : Int), .int .i64 pn, .int .i64 sl, .bool ha, .int .u32 (vr : Int), .int .i64 vn, .int .i64 k, .int .i64 s, .int .i64 q, .slice A1 rs.length c1, .slice A2 ws.length c2, .int .i64 i, .int .i64 j, .int .i64 g, .int .u64 (st : Int), .bool y] 39)).alloc (.cells #[.int .u32 0, .int .i64 0, .int .i64 0, .bool false, .int .u32 0, .int .i64 0, .int .i64 0, .int .i64 0, .int .i64 0, .slice none 0 0, .slice none 0 0, .int .i64 0, .int .i64 0, .int .i64 0, .int .u64 0, .bool false] 39) := ⟨_, rfl⟩
  have g0 : Below w.heap.size w w0 := by rw [hw0]; exact ((Below.refl _ _).alloc (Nat.le_refl _) _).alloc (by simp) _
  have Za : w0.heap[w.heap.size]? = some (.cells #[.int .u32 (pr : Int), .int .i64 pn, .int .i64 sl, .bool ha, .int .u32 (vr : Int), .int .i64 vn, .int .i64 k, .int .i64 s, .int .i64 q, .slice A1 rs.length c1, .slice A2 ws.length c2, .int .i64 i, .int .i64 j, .int .i64 g, .int .u64 (st : Int), .bool y] 39) := by rw [hw0]; exact heapA3 (heap_alloc_new w _) _
  have Zr : w0.heap[w.heap.size + 1]? = some (.cells #[.int .u32 0, .int .i64 0, .int .i64 0, .bool false, .int .u32 0, .int .i64 0, .int .i64 0, .int .i64 0, .int .i64 0, .slice none 0 0, .slice none 0 0, .int .i64 0, .int .i64 0, .int .i64 0, .int .u64 0, .bool false] 39) := by
    rw [hw0]
    have := heap_alloc_new (w.alloc (.cells #[.int .u32 (pr : Int), .int .i64 pn, .int .i64 sl, .bool ha, .int .u32 (vr : Int), .int .i64 vn, .int .i64 k, .int .i64 s, .int .i64 q, .slice A1 rs.length c1, .slice A2 ws.length c2, .int .i64 i, .int .i64 j, .int .i64 g, .int .u64 (st : Int), .bool y] 39)) (.cells #[.int .u32 0, .int .i64 0, .int .i64 0, .bool false, .int .u32 0, .int .i64 0, .int .i64 0, .int .i64 0, .int .i64 0, .slice none 0 0, .slice none 0 0, .int .i64 0, .int .i64 0, .int .i64 0, .int .u64 0, .bool false] 39)
    simpa using this
  have gB := g0.size
  have HA := Lib.hid (aformed_any pr pn sl ha vr vn k s q rs ws A1 c1 A2 c2 i j g st y w0 B0 (by omega) (ok.below g0 hB) (hT.below g0))
  have HS : Hid (T.aformed pr pn sl ha vr vn k s q rs ws i j g st y = true → 1 ≤ sl ∧ sl ≤ 1000000) := T.aformed_slot
  have HM : Hid ((T.aformed pr pn sl ha vr vn k s q rs ws i j g st y && decide (sn = sl) && decide (sn ≠ 1000000)) = false) := hm
  generalize T.aformed pr pn sl ha vr vn k s q rs ws i j g st y = m1 at HA HM HS
  clear ok hm hT
  generalize rs.length = n1 at *
  generalize ws.length = n2 at *
  have a0 := cellAt Za 0
  have a1 := cellAt Za 1
  have a2 := cellAt Za 2
  have a3 := cellAt Za 3
  have a4 := cellAt Za 4
  have a5 := cellAt Za 5
  have a6 := cellAt Za 6
  have a7 := cellAt Za 7
  have a8 := cellAt Za 8
  have a9 := cellAt Za 9
  have a10 := cellAt Za 10
  have a11 := cellAt Za 11
  have a12 := cellAt Za 12
  have a13 := cellAt Za 13
  have a14 := cellAt Za 14
  have a15 := cellAt Za 15
  simp only [List.getElem?_toArray, List.getElem?_cons_zero, List.getElem?_cons_succ] at a0 a1 a2 a3 a4 a5 a6 a7 a8 a9 a10 a11 a12 a13 a14 a15
  go_enter Tryd.func68, Tryd.ntmps68
  go_upto_region 1 with fail
  rw [← hw0]
  clear hw0
  go_cut [1, 18] (fun u1 u wx => u = .bool true ∧ Hid (wx.heap[w.heap.size]? = some (.cells #[.int .u32 (pr : Int), .int .i64 pn, .int .i64 sl, .bool ha, .int .u32 (vr : Int), .int .i64 vn, .int .i64 k, .int .i64 s, .int .i64 q, .slice A1 n1 c1, .slice A2 n2 c2, .int .i64 i, .int .i64 j, .int .i64 g, .int .u64 (st : Int), .bool y] 39)) ∧ Hid (wx.heap[w.heap.size + 1]? = some (.cells #[.int .u32 0, .int .i64 0, .int .i64 0, .bool false, .int .u32 0, .int .i64 0, .int .i64 0, .int .i64 0, .int .i64 0, .slice none 0 0, .slice none 0 0, .int .i64 0, .int .i64 0, .int .i64 0, .int .u64 0, .bool false] 39)) ∧ Hid (Below w.heap.size w wx))
  case first =>
    go_wp2_with fail
    refine HA.out.mono ?_
    rintro e wx ⟨rfl, t1⟩
    have a0 := cellB t1 a0
    have a1 := cellB t1 a1
    have a2 := cellB t1 a2
    have a3 := cellB t1 a3
    have a4 := cellB t1 a4
    have a5 := cellB t1 a5
    have a6 := cellB t1 a6
    have a7 := cellB t1 a7
    have a8 := cellB t1 a8
    have a9 := cellB t1 a9
    have a10 := cellB t1 a10
    have a11 := cellB t1 a11
    have a12 := cellB t1 a12
    have a13 := cellB t1 a13
    have a14 := cellB t1 a14
    have a15 := cellB t1 a15
    have Za := heapB3 Za t1
    have Zr := heapB3 Zr t1
    have e1 := g0.trans (t1.mono gB)
    clear HA g0 t1
    cases m1 with
    | false =>
      go_wp2_with fail
      go_meet
      exact ⟨rfl, Za, Zr, e1⟩
    | true =>
      by_cases h1 : sn = sl
      · have h3 : sn = 1000000 := by have := HM.out; simpa [h1] using this
        subst h1
        have d3 : (sn == 1000000) = true := by simp [h3]
        have d4 : decide (sn < 1000000) = false := by simp [h3]
        have d5 : ¬ sn < 1000000 := by omega
        clear HM HS h3
        go_wp2_with fail
        all_goals
          go_meet
          exact ⟨by first | exact rfl | (simp [d3]), Za, Zr, e1⟩
      · have d1 : (sn == sl) = false := by simp [h1]
        have d2 : (sn != sl) = true := by simp [h1]
        clear HM HS
        go_wp2_with fail
        all_goals
          go_meet
          exact ⟨by first | exact rfl | (simp [h1]), Za, Zr, e1⟩
  case rest =>
    obtain ⟨rfl, Za, Zr, e1⟩ := hcut
    have nm : ∀ z : World, Below w.heap.size w z → ∃ z', z' = z := fun z _ => ⟨z, rfl⟩
    obtain ⟨wx, hwx⟩ := nm _ e1.out
    subst hwx
    clear nm g0 gB HA HM HS a0 a1 a2 a3 a4 a5 a6 a7 a8 a9 a10 a11 a12 a13 a14 a15
    have Za := Za.out
    have Zr := Zr.out
    have e1 := e1.out
    go_upto_region 2 with fail
    refine wp_region_lit ?_
    refine wpList_load_mid rfl 39 _ rfl w.heap.size 0 rfl [.int .u32 (pr : Int), .int .i64 pn, .int .i64 sl, .bool ha, .int .u32 (vr : Int), .int .i64 vn, .int .i64 k, .int .i64 s, .int .i64 q, .slice A1 n1 c1, .slice A2 n2 c2, .int .i64 i, .int .i64 j, .int .i64 g, .int .u64 (st : Int), .bool y] _ (rangeOf Za) Tryd.underlying39 rfl info16 ?_
    refine wpList_store_row rfl 39 _ _ rfl (w.heap.size + 1) #[.int .u32 (pr : Int), .int .i64 pn, .int .i64 sl, .bool ha, .int .u32 (vr : Int), .int .i64 vn, .int .i64 k, .int .i64 s, .int .i64 q, .slice A1 n1 c1, .slice A2 n2 c2, .int .i64 i, .int .i64 j, .int .i64 g, .int .u64 (st : Int), .bool y] rfl rfl 39 _ Zr info16 rfl (by simp [Value.oneCell']) ?_
    have Zf := setRow_heap wx (w.heap.size + 1) _ #[.int .u32 (pr : Int), .int .i64 pn, .int .i64 sl, .bool ha, .int .u32 (vr : Int), .int .i64 vn, .int .i64 k, .int .i64 s, .int .i64 q, .slice A1 n1 c1, .slice A2 n2 c2, .int .i64 i, .int .i64 j, .int .i64 g, .int .u64 (st : Int), .bool y] _ _ Zr
    have BZ : Below w.heap.size w (wx.setRow (w.heap.size + 1) #[.int .u32 (pr : Int), .int .i64 pn, .int .i64 sl, .bool ha, .int .u32 (vr : Int), .int .i64 vn, .int .i64 k, .int .i64 s, .int .i64 q, .slice A1 n1 c1, .slice A2 n2 c2, .int .i64 i, .int .i64 j, .int .i64 g, .int .u64 (st : Int), .bool y]) := belowRow e1 Zr (by omega)
    clear Za Zr
    generalize wx.setRow (w.heap.size + 1) #[.int .u32 (pr : Int), .int .i64 pn, .int .i64 sl, .bool ha, .int .u32 (vr : Int), .int .i64 vn, .int .i64 k, .int .i64 s, .int .i64 q, .slice A1 n1 c1, .slice A2 n2 c2, .int .i64 i, .int .i64 j, .int .i64 g, .int .u64 (st : Int), .bool y] = wz at Zf BZ ⊢
    have r0 := cellAt Zf 0
    have r1 := cellAt Zf 1
    have r2 := cellAt Zf 2
    have r3 := cellAt Zf 3
    have r4 := cellAt Zf 4
    have r5 := cellAt Zf 5
    have r6 := cellAt Zf 6
    have r7 := cellAt Zf 7
    have r8 := cellAt Zf 8
    have r9 := cellAt Zf 9
    have r10 := cellAt Zf 10
    have r11 := cellAt Zf 11
    have r12 := cellAt Zf 12
    have r13 := cellAt Zf 13
    have r14 := cellAt Zf 14
    have r15 := cellAt Zf 15
    simp only [List.getElem?_toArray, List.getElem?_cons_zero, List.getElem?_cons_succ] at r0 r1 r2 r3 r4 r5 r6 r7 r8 r9 r10 r11 r12 r13 r14 r15
    go_wp2_with fail
    refine bodyPost_ret (v := .tuple #[.agg #[.int .u32 (pr : Int), .int .i64 pn, .int .i64 sl, .bool ha, .int .u32 (vr : Int), .int .i64 vn, .int .i64 k, .int .i64 s, .int .i64 q, .slice A1 n1 c1, .slice A2 n2 c2, .int .i64 i, .int .i64 j, .int .i64 g, .int .u64 (st : Int), .bool y], .bool false]) (by simp [results, Tryd.results68, go_sem, r0, r1, r2, r3, r4, r5, r6, r7, r8, r9, r10, r11, r12, r13, r14, r15]) rfl ⟨rfl, BZ⟩
set_option maxRecDepth 20000 in
set_option maxHeartbeats 6400000 in
theorem learn_yes (pr : Nat) (pn sl : Int) (ha : Bool) (vr : Nat) (vn : Int) (k s q : Int) (rs : List Rd1) (ws : List Wr1) (A1 : Option Addr) (c1 : Nat) (A2 : Option Addr) (c2 : Nat) (i j g : Int) (st : Nat) (y : Bool) (sn : Int) (w : World) (B0 : Nat) (hB : B0 ≤ w.heap.size) (ok : TxOk w B0 rs ws A1 c1 A2 c2) (hT : Tabs w) (hm : T.learns pr pn sl ha vr vn k s q rs ws i j g st y sn = true) :
    Calls Tryd.prog 68 #[.agg #[.int .u32 (pr : Int), .int .i64 pn, .int .i64 sl, .bool ha, .int .u32 (vr : Int), .int .i64 vn, .int .i64 k, .int .i64 s, .int .i64 q, .slice A1 rs.length c1, .slice A2 ws.length c2, .int .i64 i, .int .i64 j, .int .i64 g, .int .u64 (st : Int), .bool y], .int .i64 sn] w fun e w' => e = .returned (.tuple #[.agg #[.int .u32 (pr : Int), .int .i64 pn, .int .i64 (sn + 1), .bool false, .int .u32 0, .int .i64 0, .int .i64 0, .int .i64 0, .int .i64 0, .slice none 0 0, .slice none 0 0, .int .i64 0, .int .i64 0, .int .i64 0, .int .u64 0, .bool false], .bool true]) ∧ Below w.heap.size w w' := by
  obtain ⟨w0, hw0⟩ : ∃ w0, w0 = (w.alloc (.cells #[.int .u32 (pr : Int), .int .i64 pn, .int .i64 sl, .bool ha, .int .u32 (vr : Int), .int .i64 vn, .int .i64 k, .int .i64 s, .int .i64 q, .slice A1 rs.length c1, .slice A2 ws.length c2, .int .i64 i, .int .i64 j, .int .i64 g, .int .u64 (st : Int), .bool y] 39)).alloc (.cells #[.int .u32 0, .int .i64 0, .int .i64 0, .bool false, .int .u32 0, .int .i64 0, .int .i64 0, .int .i64 0, .int .i64 0, .slice none 0 0, .slice none 0 0, .int .i64 0, .int .i64 0, .int .i64 0, .int .u64 0, .bool false] 39) := ⟨_, rfl⟩
  have g0 : Below w.heap.size w w0 := by rw [hw0]; exact ((Below.refl _ _).alloc (Nat.le_refl _) _).alloc (by simp) _
  have Za : w0.heap[w.heap.size]? = some (.cells #[.int .u32 (pr : Int), .int .i64 pn, .int .i64 sl, .bool ha, .int .u32 (vr : Int), .int .i64 vn, .int .i64 k, .int .i64 s, .int .i64 q, .slice A1 rs.length c1, .slice A2 ws.length c2, .int .i64 i, .int .i64 j, .int .i64 g, .int .u64 (st : Int), .bool y] 39) := by rw [hw0]; exact heapA3 (heap_alloc_new w _) _
  have Zr : w0.heap[w.heap.size + 1]? = some (.cells #[.int .u32 0, .int .i64 0, .int .i64 0, .bool false, .int .u32 0, .int .i64 0, .int .i64 0, .int .i64 0, .int .i64 0, .slice none 0 0, .slice none 0 0, .int .i64 0, .int .i64 0, .int .i64 0, .int .u64 0, .bool false] 39) := by
    rw [hw0]
    have := heap_alloc_new (w.alloc (.cells #[.int .u32 (pr : Int), .int .i64 pn, .int .i64 sl, .bool ha, .int .u32 (vr : Int), .int .i64 vn, .int .i64 k, .int .i64 s, .int .i64 q, .slice A1 rs.length c1, .slice A2 ws.length c2, .int .i64 i, .int .i64 j, .int .i64 g, .int .u64 (st : Int), .bool y] 39)) (.cells #[.int .u32 0, .int .i64 0, .int .i64 0, .bool false, .int .u32 0, .int .i64 0, .int .i64 0, .int .i64 0, .int .i64 0, .slice none 0 0, .slice none 0 0, .int .i64 0, .int .i64 0, .int .i64 0, .int .u64 0, .bool false] 39)
    simpa using this
  have gB := g0.size
  have HA := Lib.hid (aformed_any pr pn sl ha vr vn k s q rs ws A1 c1 A2 c2 i j g st y w0 B0 (by omega) (ok.below g0 hB) (hT.below g0))
  have HS : Hid (T.aformed pr pn sl ha vr vn k s q rs ws i j g st y = true → 1 ≤ sl ∧ sl ≤ 1000000) := T.aformed_slot
  have HM : Hid ((T.aformed pr pn sl ha vr vn k s q rs ws i j g st y && decide (sn = sl) && decide (sn ≠ 1000000)) = true) := hm
  generalize T.aformed pr pn sl ha vr vn k s q rs ws i j g st y = m1 at HA HM HS
  clear ok hm hT
  generalize rs.length = n1 at *
  generalize ws.length = n2 at *
  have a0 := cellAt Za 0
  have a1 := cellAt Za 1
  have a2 := cellAt Za 2
  have a3 := cellAt Za 3
  have a4 := cellAt Za 4
  have a5 := cellAt Za 5
  have a6 := cellAt Za 6
  have a7 := cellAt Za 7
  have a8 := cellAt Za 8
  have a9 := cellAt Za 9
  have a10 := cellAt Za 10
  have a11 := cellAt Za 11
  have a12 := cellAt Za 12
  have a13 := cellAt Za 13
  have a14 := cellAt Za 14
  have a15 := cellAt Za 15
  simp only [List.getElem?_toArray, List.getElem?_cons_zero, List.getElem?_cons_succ] at a0 a1 a2 a3 a4 a5 a6 a7 a8 a9 a10 a11 a12 a13 a14 a15
  go_enter Tryd.func68, Tryd.ntmps68
  go_upto_region 1 with fail
  rw [← hw0]
  clear hw0
  go_wp2_with fail
  refine HA.out.mono ?_
  rintro e wx ⟨rfl, t1⟩
  have a0 := cellB t1 a0
  have a1 := cellB t1 a1
  have a2 := cellB t1 a2
  have a3 := cellB t1 a3
  have a4 := cellB t1 a4
  have a5 := cellB t1 a5
  have a6 := cellB t1 a6
  have a7 := cellB t1 a7
  have a8 := cellB t1 a8
  have a9 := cellB t1 a9
  have a10 := cellB t1 a10
  have a11 := cellB t1 a11
  have a12 := cellB t1 a12
  have a13 := cellB t1 a13
  have a14 := cellB t1 a14
  have a15 := cellB t1 a15
  have Za := heapB3 Za t1
  have Zr := heapB3 Zr t1
  have e1 := g0.trans (t1.mono gB)
  clear HA g0 t1
  have h1 : m1 = true ∧ sn = sl ∧ sn ≠ 1000000 := by
    have := HM.out
    rw [Bool.and_eq_true, Bool.and_eq_true] at this
    exact ⟨this.1.1, of_decide_eq_true this.1.2, of_decide_eq_true this.2⟩
  obtain ⟨rfl, rfl, h3⟩ := h1
  have hs := HS.out rfl
  have hw : IntKind.i64.wrap (sn + 1) = sn + 1 := by rw [IntKind.wrap_i64]; omega
  have d3 : (sn == 1000000) = false := by simp [h3]
  have d4 : decide (sn < 1000000) = true := by simp; omega
  have l1 : -9223372036854775808 ≤ sn + 1 := by omega
  have l2 : sn + 1 ≤ 9223372036854775807 := by omega
  clear HM HS h3 hs
  go_upto_region 3 with fail
  refine wp_region_lit ?_
  refine wpList_plain rfl fun K hK => ?_
  go_simp
  refine hK _ _ ?_
  clear hK K
  try simp only [List.getElem_toArray, List.getElem_cons_zero, List.getElem_cons_succ, Act.put, List.setIfInBounds_toArray, List.set_cons_zero, List.set_cons_succ]
  refine wpList_plain rfl fun K hK => ?_
  go_simp
  refine hK _ _ ?_
  clear hK K
  try simp only [List.getElem_toArray, List.getElem_cons_zero, List.getElem_cons_succ, Act.put, List.setIfInBounds_toArray, List.set_cons_zero, List.set_cons_succ]
  refine wpList_plain rfl fun K hK => ?_
  go_simp
  refine hK _ _ ?_
  clear hK K
  try simp only [List.getElem_toArray, List.getElem_cons_zero, List.getElem_cons_succ, Act.put, List.setIfInBounds_toArray, List.set_cons_zero, List.set_cons_succ]
  refine wpList_plain rfl fun K hK => ?_
  go_simp
  refine hK _ _ ?_
  clear hK K
  try simp only [List.getElem_toArray, List.getElem_cons_zero, List.getElem_cons_succ, Act.put, List.setIfInBounds_toArray, List.set_cons_zero, List.set_cons_succ]
  refine wpList_plain rfl fun K hK => ?_
  go_simp
  refine hK _ _ ?_
  clear hK K
  try simp only [List.getElem_toArray, List.getElem_cons_zero, List.getElem_cons_succ, Act.put, List.setIfInBounds_toArray, List.set_cons_zero, List.set_cons_succ]
  refine wpList_store_row rfl 39 _ _ rfl (w.heap.size + 1) #[.int .u32 (pr : Int), .int .i64 pn, .int .i64 (sn + 1), .bool false, .int .u32 0, .int .i64 0, .int .i64 0, .int .i64 0, .int .i64 0, .slice none 0 0, .slice none 0 0, .int .i64 0, .int .i64 0, .int .i64 0, .int .u64 0, .bool false] rfl rfl 39 _ Zr info16 rfl (by simp [Value.oneCell']) ?_
  have Zf := setRow_heap wx (w.heap.size + 1) _ #[.int .u32 (pr : Int), .int .i64 pn, .int .i64 (sn + 1), .bool false, .int .u32 0, .int .i64 0, .int .i64 0, .int .i64 0, .int .i64 0, .slice none 0 0, .slice none 0 0, .int .i64 0, .int .i64 0, .int .i64 0, .int .u64 0, .bool false] _ _ Zr
  have BZ : Below w.heap.size w (wx.setRow (w.heap.size + 1) #[.int .u32 (pr : Int), .int .i64 pn, .int .i64 (sn + 1), .bool false, .int .u32 0, .int .i64 0, .int .i64 0, .int .i64 0, .int .i64 0, .slice none 0 0, .slice none 0 0, .int .i64 0, .int .i64 0, .int .i64 0, .int .u64 0, .bool false]) := belowRow e1 Zr (by omega)
  clear Za Zr a0 a1 a2 a3 a4 a5 a6 a7 a8 a9 a10 a11 a12 a13 a14 a15
  generalize wx.setRow (w.heap.size + 1) #[.int .u32 (pr : Int), .int .i64 pn, .int .i64 (sn + 1), .bool false, .int .u32 0, .int .i64 0, .int .i64 0, .int .i64 0, .int .i64 0, .slice none 0 0, .slice none 0 0, .int .i64 0, .int .i64 0, .int .i64 0, .int .u64 0, .bool false] = wz at Zf BZ ⊢
  have r0 := cellAt Zf 0
  have r1 := cellAt Zf 1
  have r2 := cellAt Zf 2
  have r3 := cellAt Zf 3
  have r4 := cellAt Zf 4
  have r5 := cellAt Zf 5
  have r6 := cellAt Zf 6
  have r7 := cellAt Zf 7
  have r8 := cellAt Zf 8
  have r9 := cellAt Zf 9
  have r10 := cellAt Zf 10
  have r11 := cellAt Zf 11
  have r12 := cellAt Zf 12
  have r13 := cellAt Zf 13
  have r14 := cellAt Zf 14
  have r15 := cellAt Zf 15
  simp only [List.getElem?_toArray, List.getElem?_cons_zero, List.getElem?_cons_succ] at r0 r1 r2 r3 r4 r5 r6 r7 r8 r9 r10 r11 r12 r13 r14 r15
  go_wp2_with fail
  refine bodyPost_ret (v := .tuple #[.agg #[.int .u32 (pr : Int), .int .i64 pn, .int .i64 (sn + 1), .bool false, .int .u32 0, .int .i64 0, .int .i64 0, .int .i64 0, .int .i64 0, .slice none 0 0, .slice none 0 0, .int .i64 0, .int .i64 0, .int .i64 0, .int .u64 0, .bool false], .bool true]) (by simp [results, Tryd.results68, go_sem, r0, r1, r2, r3, r4, r5, r6, r7, r8, r9, r10, r11, r12, r13, r14, r15]) rfl ⟨rfl, BZ⟩
set_option maxRecDepth 20000 in
set_option maxHeartbeats 6400000 in
theorem rlearn_no (pr : Nat) (pn sl : Int) (ha : Bool) (vr : Nat) (vn : Int) (k s q : Int) (rs : List Rd1) (ws : List Wr1) (A1 : Option Addr) (c1 : Nat) (A2 : Option Addr) (c2 : Nat) (i j g : Int) (st : Nat) (y : Bool) (sn : Int) (w : World) (B0 : Nat) (hB : B0 ≤ w.heap.size) (ok : TxOk w B0 rs ws A1 c1 A2 c2) (hm : T.learns pr pn sl ha vr vn k s q rs ws i j g st y sn = false) :
    Calls Tryd.prog 69 #[.agg #[.int .u32 (pr : Int), .int .i64 pn, .int .i64 sl, .bool ha, .int .u32 (vr : Int), .int .i64 vn, .int .i64 k, .int .i64 s, .int .i64 q, .slice A1 rs.length c1, .slice A2 ws.length c2, .int .i64 i, .int .i64 j, .int .i64 g, .int .u64 (st : Int), .bool y], .int .i64 sn] w fun e w' => e = .returned (.tuple #[.agg #[.int .u32 (pr : Int), .int .i64 pn, .int .i64 sl, .bool ha, .int .u32 (vr : Int), .int .i64 vn, .int .i64 k, .int .i64 s, .int .i64 q, .slice A1 rs.length c1, .slice A2 ws.length c2, .int .i64 i, .int .i64 j, .int .i64 g, .int .u64 (st : Int), .bool y], .bool false]) ∧ Below w.heap.size w w' := by
  obtain ⟨w0, hw0⟩ : ∃ w0, w0 = (w.alloc (.cells #[.int .u32 (pr : Int), .int .i64 pn, .int .i64 sl, .bool ha, .int .u32 (vr : Int), .int .i64 vn, .int .i64 k, .int .i64 s, .int .i64 q, .slice A1 rs.length c1, .slice A2 ws.length c2, .int .i64 i, .int .i64 j, .int .i64 g, .int .u64 (st : Int), .bool y] 43)).alloc (.cells #[.int .u32 0, .int .i64 0, .int .i64 0, .bool false, .int .u32 0, .int .i64 0, .int .i64 0, .int .i64 0, .int .i64 0, .slice none 0 0, .slice none 0 0, .int .i64 0, .int .i64 0, .int .i64 0, .int .u64 0, .bool false] 43) := ⟨_, rfl⟩
  have g0 : Below w.heap.size w w0 := by rw [hw0]; exact ((Below.refl _ _).alloc (Nat.le_refl _) _).alloc (by simp) _
  have Za : w0.heap[w.heap.size]? = some (.cells #[.int .u32 (pr : Int), .int .i64 pn, .int .i64 sl, .bool ha, .int .u32 (vr : Int), .int .i64 vn, .int .i64 k, .int .i64 s, .int .i64 q, .slice A1 rs.length c1, .slice A2 ws.length c2, .int .i64 i, .int .i64 j, .int .i64 g, .int .u64 (st : Int), .bool y] 43) := by rw [hw0]; exact heapA3 (heap_alloc_new w _) _
  have Zr : w0.heap[w.heap.size + 1]? = some (.cells #[.int .u32 0, .int .i64 0, .int .i64 0, .bool false, .int .u32 0, .int .i64 0, .int .i64 0, .int .i64 0, .int .i64 0, .slice none 0 0, .slice none 0 0, .int .i64 0, .int .i64 0, .int .i64 0, .int .u64 0, .bool false] 43) := by
    rw [hw0]
    have := heap_alloc_new (w.alloc (.cells #[.int .u32 (pr : Int), .int .i64 pn, .int .i64 sl, .bool ha, .int .u32 (vr : Int), .int .i64 vn, .int .i64 k, .int .i64 s, .int .i64 q, .slice A1 rs.length c1, .slice A2 ws.length c2, .int .i64 i, .int .i64 j, .int .i64 g, .int .u64 (st : Int), .bool y] 43)) (.cells #[.int .u32 0, .int .i64 0, .int .i64 0, .bool false, .int .u32 0, .int .i64 0, .int .i64 0, .int .i64 0, .int .i64 0, .slice none 0 0, .slice none 0 0, .int .i64 0, .int .i64 0, .int .i64 0, .int .u64 0, .bool false] 43)
    simpa using this
  have gB := g0.size
  have HA := Lib.hid (raformed_any pr pn sl ha vr vn k s q rs ws A1 c1 A2 c2 i j g st y w0 B0 (by omega) (ok.below g0 hB))
  have HS : Hid (T.aformed pr pn sl ha vr vn k s q rs ws i j g st y = true → 1 ≤ sl ∧ sl ≤ 1000000) := T.aformed_slot
  have HM : Hid ((T.aformed pr pn sl ha vr vn k s q rs ws i j g st y && decide (sn = sl) && decide (sn ≠ 1000000)) = false) := hm
  generalize T.aformed pr pn sl ha vr vn k s q rs ws i j g st y = m1 at HA HM HS
  clear ok hm
  generalize rs.length = n1 at *
  generalize ws.length = n2 at *
  have a0 := cellAt Za 0
  have a1 := cellAt Za 1
  have a2 := cellAt Za 2
  have a3 := cellAt Za 3
  have a4 := cellAt Za 4
  have a5 := cellAt Za 5
  have a6 := cellAt Za 6
  have a7 := cellAt Za 7
  have a8 := cellAt Za 8
  have a9 := cellAt Za 9
  have a10 := cellAt Za 10
  have a11 := cellAt Za 11
  have a12 := cellAt Za 12
  have a13 := cellAt Za 13
  have a14 := cellAt Za 14
  have a15 := cellAt Za 15
  simp only [List.getElem?_toArray, List.getElem?_cons_zero, List.getElem?_cons_succ] at a0 a1 a2 a3 a4 a5 a6 a7 a8 a9 a10 a11 a12 a13 a14 a15
  go_enter Tryd.func69, Tryd.ntmps69
  go_upto_region 1 with fail
  rw [← hw0]
  clear hw0
  go_cut [1, 17] (fun u1 u wx => u = .bool false ∧ Hid (wx.heap[w.heap.size]? = some (.cells #[.int .u32 (pr : Int), .int .i64 pn, .int .i64 sl, .bool ha, .int .u32 (vr : Int), .int .i64 vn, .int .i64 k, .int .i64 s, .int .i64 q, .slice A1 n1 c1, .slice A2 n2 c2, .int .i64 i, .int .i64 j, .int .i64 g, .int .u64 (st : Int), .bool y] 43)) ∧ Hid (wx.heap[w.heap.size + 1]? = some (.cells #[.int .u32 0, .int .i64 0, .int .i64 0, .bool false, .int .u32 0, .int .i64 0, .int .i64 0, .int .i64 0, .int .i64 0, .slice none 0 0, .slice none 0 0, .int .i64 0, .int .i64 0, .int .i64 0, .int .u64 0, .bool false] 43)) ∧ Hid (Below w.heap.size w wx))
  case first =>
    go_wp2_with fail
    refine HA.out.mono ?_
    rintro e wx ⟨rfl, t1⟩
    have a0 := cellB t1 a0
    have a1 := cellB t1 a1
    have a2 := cellB t1 a2
    have a3 := cellB t1 a3
    have a4 := cellB t1 a4
    have a5 := cellB t1 a5
    have a6 := cellB t1 a6
    have a7 := cellB t1 a7
    have a8 := cellB t1 a8
    have a9 := cellB t1 a9
    have a10 := cellB t1 a10
    have a11 := cellB t1 a11
    have a12 := cellB t1 a12
    have a13 := cellB t1 a13
    have a14 := cellB t1 a14
    have a15 := cellB t1 a15
    have Za := heapB3 Za t1
    have Zr := heapB3 Zr t1
    have e1 := g0.trans (t1.mono gB)
    clear HA g0 t1
    cases m1 with
    | false =>
      go_wp2_with fail
      go_meet
      exact ⟨rfl, Za, Zr, e1⟩
    | true =>
      by_cases h1 : sn = sl
      · have h3 : sn = 1000000 := by have := HM.out; simpa [h1] using this
        subst h1
        have d3 : (sn == 1000000) = true := by simp [h3]
        have d4 : decide (sn < 1000000) = false := by simp [h3]
        have d5 : ¬ sn < 1000000 := by omega
        clear HM HS h3
        go_wp2_with fail
        all_goals
          go_meet
          exact ⟨by first | exact rfl | (simp [d3]), Za, Zr, e1⟩
      · have d1 : (sn == sl) = false := by simp [h1]
        have d2 : (sn != sl) = true := by simp [h1]
        clear HM HS
        go_wp2_with fail
        all_goals
          go_meet
          exact ⟨by first | exact rfl | (simp [h1]), Za, Zr, e1⟩
  case rest =>
    obtain ⟨rfl, Za, Zr, e1⟩ := hcut
    have nm : ∀ z : World, Below w.heap.size w z → ∃ z', z' = z := fun z _ => ⟨z, rfl⟩
    obtain ⟨wx, hwx⟩ := nm _ e1.out
    subst hwx
    clear nm g0 gB HA HM HS a0 a1 a2 a3 a4 a5 a6 a7 a8 a9 a10 a11 a12 a13 a14 a15
    have Za := Za.out
    have Zr := Zr.out
    have e1 := e1.out
    go_upto_region 3 with fail
    refine wp_region_lit ?_
    refine wpList_load_mid rfl 43 _ rfl w.heap.size 0 rfl [.int .u32 (pr : Int), .int .i64 pn, .int .i64 sl, .bool ha, .int .u32 (vr : Int), .int .i64 vn, .int .i64 k, .int .i64 s, .int .i64 q, .slice A1 n1 c1, .slice A2 n2 c2, .int .i64 i, .int .i64 j, .int .i64 g, .int .u64 (st : Int), .bool y] _ (rangeOf Za) Tryd.underlying43 rfl info16l ?_
    refine wpList_store_row rfl 43 _ _ rfl (w.heap.size + 1) #[.int .u32 (pr : Int), .int .i64 pn, .int .i64 sl, .bool ha, .int .u32 (vr : Int), .int .i64 vn, .int .i64 k, .int .i64 s, .int .i64 q, .slice A1 n1 c1, .slice A2 n2 c2, .int .i64 i, .int .i64 j, .int .i64 g, .int .u64 (st : Int), .bool y] rfl rfl 43 _ Zr info16l rfl (by simp [Value.oneCell']) ?_
    have Zf := setRow_heap wx (w.heap.size + 1) _ #[.int .u32 (pr : Int), .int .i64 pn, .int .i64 sl, .bool ha, .int .u32 (vr : Int), .int .i64 vn, .int .i64 k, .int .i64 s, .int .i64 q, .slice A1 n1 c1, .slice A2 n2 c2, .int .i64 i, .int .i64 j, .int .i64 g, .int .u64 (st : Int), .bool y] _ _ Zr
    have BZ : Below w.heap.size w (wx.setRow (w.heap.size + 1) #[.int .u32 (pr : Int), .int .i64 pn, .int .i64 sl, .bool ha, .int .u32 (vr : Int), .int .i64 vn, .int .i64 k, .int .i64 s, .int .i64 q, .slice A1 n1 c1, .slice A2 n2 c2, .int .i64 i, .int .i64 j, .int .i64 g, .int .u64 (st : Int), .bool y]) := belowRow e1 Zr (by omega)
    clear Za Zr
    generalize wx.setRow (w.heap.size + 1) #[.int .u32 (pr : Int), .int .i64 pn, .int .i64 sl, .bool ha, .int .u32 (vr : Int), .int .i64 vn, .int .i64 k, .int .i64 s, .int .i64 q, .slice A1 n1 c1, .slice A2 n2 c2, .int .i64 i, .int .i64 j, .int .i64 g, .int .u64 (st : Int), .bool y] = wz at Zf BZ ⊢
    have r0 := cellAt Zf 0
    have r1 := cellAt Zf 1
    have r2 := cellAt Zf 2
    have r3 := cellAt Zf 3
    have r4 := cellAt Zf 4
    have r5 := cellAt Zf 5
    have r6 := cellAt Zf 6
    have r7 := cellAt Zf 7
    have r8 := cellAt Zf 8
    have r9 := cellAt Zf 9
    have r10 := cellAt Zf 10
    have r11 := cellAt Zf 11
    have r12 := cellAt Zf 12
    have r13 := cellAt Zf 13
    have r14 := cellAt Zf 14
    have r15 := cellAt Zf 15
    simp only [List.getElem?_toArray, List.getElem?_cons_zero, List.getElem?_cons_succ] at r0 r1 r2 r3 r4 r5 r6 r7 r8 r9 r10 r11 r12 r13 r14 r15
    go_wp2_with fail
    refine bodyPost_ret (v := .tuple #[.agg #[.int .u32 (pr : Int), .int .i64 pn, .int .i64 sl, .bool ha, .int .u32 (vr : Int), .int .i64 vn, .int .i64 k, .int .i64 s, .int .i64 q, .slice A1 n1 c1, .slice A2 n2 c2, .int .i64 i, .int .i64 j, .int .i64 g, .int .u64 (st : Int), .bool y], .bool false]) (by simp [results, Tryd.results69, go_sem, r0, r1, r2, r3, r4, r5, r6, r7, r8, r9, r10, r11, r12, r13, r14, r15]) rfl ⟨rfl, BZ⟩
set_option maxRecDepth 20000 in
set_option maxHeartbeats 6400000 in
theorem rlearn_yes (pr : Nat) (pn sl : Int) (ha : Bool) (vr : Nat) (vn : Int) (k s q : Int) (rs : List Rd1) (ws : List Wr1) (A1 : Option Addr) (c1 : Nat) (A2 : Option Addr) (c2 : Nat) (i j g : Int) (st : Nat) (y : Bool) (sn : Int) (w : World) (B0 : Nat) (hB : B0 ≤ w.heap.size) (ok : TxOk w B0 rs ws A1 c1 A2 c2) (hm : T.learns pr pn sl ha vr vn k s q rs ws i j g st y sn = true) :
    Calls Tryd.prog 69 #[.agg #[.int .u32 (pr : Int), .int .i64 pn, .int .i64 sl, .bool ha, .int .u32 (vr : Int), .int .i64 vn, .int .i64 k, .int .i64 s, .int .i64 q, .slice A1 rs.length c1, .slice A2 ws.length c2, .int .i64 i, .int .i64 j, .int .i64 g, .int .u64 (st : Int), .bool y], .int .i64 sn] w fun e w' => e = .returned (.tuple #[.agg #[.int .u32 (pr : Int), .int .i64 pn, .int .i64 (sn + 1), .bool false, .int .u32 0, .int .i64 0, .int .i64 0, .int .i64 0, .int .i64 0, .slice none 0 0, .slice none 0 0, .int .i64 0, .int .i64 0, .int .i64 0, .int .u64 0, .bool false], .bool true]) ∧ Below w.heap.size w w' := by
  obtain ⟨w0, hw0⟩ : ∃ w0, w0 = (w.alloc (.cells #[.int .u32 (pr : Int), .int .i64 pn, .int .i64 sl, .bool ha, .int .u32 (vr : Int), .int .i64 vn, .int .i64 k, .int .i64 s, .int .i64 q, .slice A1 rs.length c1, .slice A2 ws.length c2, .int .i64 i, .int .i64 j, .int .i64 g, .int .u64 (st : Int), .bool y] 43)).alloc (.cells #[.int .u32 0, .int .i64 0, .int .i64 0, .bool false, .int .u32 0, .int .i64 0, .int .i64 0, .int .i64 0, .int .i64 0, .slice none 0 0, .slice none 0 0, .int .i64 0, .int .i64 0, .int .i64 0, .int .u64 0, .bool false] 43) := ⟨_, rfl⟩
  have g0 : Below w.heap.size w w0 := by rw [hw0]; exact ((Below.refl _ _).alloc (Nat.le_refl _) _).alloc (by simp) _
  have Za : w0.heap[w.heap.size]? = some (.cells #[.int .u32 (pr : Int), .int .i64 pn, .int .i64 sl, .bool ha, .int .u32 (vr : Int), .int .i64 vn, .int .i64 k, .int .i64 s, .int .i64 q, .slice A1 rs.length c1, .slice A2 ws.length c2, .int .i64 i, .int .i64 j, .int .i64 g, .int .u64 (st : Int), .bool y] 43) := by rw [hw0]; exact heapA3 (heap_alloc_new w _) _
  have Zr : w0.heap[w.heap.size + 1]? = some (.cells #[.int .u32 0, .int .i64 0, .int .i64 0, .bool false, .int .u32 0, .int .i64 0, .int .i64 0, .int .i64 0, .int .i64 0, .slice none 0 0, .slice none 0 0, .int .i64 0, .int .i64 0, .int .i64 0, .int .u64 0, .bool false] 43) := by
    rw [hw0]
    have := heap_alloc_new (w.alloc (.cells #[.int .u32 (pr : Int), .int .i64 pn, .int .i64 sl, .bool ha, .int .u32 (vr : Int), .int .i64 vn, .int .i64 k, .int .i64 s, .int .i64 q, .slice A1 rs.length c1, .slice A2 ws.length c2, .int .i64 i, .int .i64 j, .int .i64 g, .int .u64 (st : Int), .bool y] 43)) (.cells #[.int .u32 0, .int .i64 0, .int .i64 0, .bool false, .int .u32 0, .int .i64 0, .int .i64 0, .int .i64 0, .int .i64 0, .slice none 0 0, .slice none 0 0, .int .i64 0, .int .i64 0, .int .i64 0, .int .u64 0, .bool false] 43)
    simpa using this
  have gB := g0.size
  have HA := Lib.hid (raformed_any pr pn sl ha vr vn k s q rs ws A1 c1 A2 c2 i j g st y w0 B0 (by omega) (ok.below g0 hB))
  have HS : Hid (T.aformed pr pn sl ha vr vn k s q rs ws i j g st y = true → 1 ≤ sl ∧ sl ≤ 1000000) := T.aformed_slot
  have HM : Hid ((T.aformed pr pn sl ha vr vn k s q rs ws i j g st y && decide (sn = sl) && decide (sn ≠ 1000000)) = true) := hm
  generalize T.aformed pr pn sl ha vr vn k s q rs ws i j g st y = m1 at HA HM HS
  clear ok hm
  generalize rs.length = n1 at *
  generalize ws.length = n2 at *
  have a0 := cellAt Za 0
  have a1 := cellAt Za 1
  have a2 := cellAt Za 2
  have a3 := cellAt Za 3
  have a4 := cellAt Za 4
  have a5 := cellAt Za 5
  have a6 := cellAt Za 6
  have a7 := cellAt Za 7
  have a8 := cellAt Za 8
  have a9 := cellAt Za 9
  have a10 := cellAt Za 10
  have a11 := cellAt Za 11
  have a12 := cellAt Za 12
  have a13 := cellAt Za 13
  have a14 := cellAt Za 14
  have a15 := cellAt Za 15
  simp only [List.getElem?_toArray, List.getElem?_cons_zero, List.getElem?_cons_succ] at a0 a1 a2 a3 a4 a5 a6 a7 a8 a9 a10 a11 a12 a13 a14 a15
  go_enter Tryd.func69, Tryd.ntmps69
  go_upto_region 1 with fail
  rw [← hw0]
  clear hw0
  go_wp2_with fail
  refine HA.out.mono ?_
  rintro e wx ⟨rfl, t1⟩
  have a0 := cellB t1 a0
  have a1 := cellB t1 a1
  have a2 := cellB t1 a2
  have a3 := cellB t1 a3
  have a4 := cellB t1 a4
  have a5 := cellB t1 a5
  have a6 := cellB t1 a6
  have a7 := cellB t1 a7
  have a8 := cellB t1 a8
  have a9 := cellB t1 a9
  have a10 := cellB t1 a10
  have a11 := cellB t1 a11
  have a12 := cellB t1 a12
  have a13 := cellB t1 a13
  have a14 := cellB t1 a14
  have a15 := cellB t1 a15
  have Za := heapB3 Za t1
  have Zr := heapB3 Zr t1
  have e1 := g0.trans (t1.mono gB)
  clear HA g0 t1
  have h1 : m1 = true ∧ sn = sl ∧ sn ≠ 1000000 := by
    have := HM.out
    rw [Bool.and_eq_true, Bool.and_eq_true] at this
    exact ⟨this.1.1, of_decide_eq_true this.1.2, of_decide_eq_true this.2⟩
  obtain ⟨rfl, rfl, h3⟩ := h1
  have hs := HS.out rfl
  have hw : IntKind.i64.wrap (sn + 1) = sn + 1 := by rw [IntKind.wrap_i64]; omega
  have d3 : (sn == 1000000) = false := by simp [h3]
  have d4 : decide (sn < 1000000) = true := by simp; omega
  have l1 : -9223372036854775808 ≤ sn + 1 := by omega
  have l2 : sn + 1 ≤ 9223372036854775807 := by omega
  clear HM HS h3 hs
  go_upto_region 2 with fail
  refine wp_region_lit ?_
  refine wpList_plain rfl fun K hK => ?_
  go_simp
  refine hK _ _ ?_
  clear hK K
  try simp only [List.getElem_toArray, List.getElem_cons_zero, List.getElem_cons_succ, Act.put, List.setIfInBounds_toArray, List.set_cons_zero, List.set_cons_succ]
  refine wpList_plain rfl fun K hK => ?_
  go_simp
  refine hK _ _ ?_
  clear hK K
  try simp only [List.getElem_toArray, List.getElem_cons_zero, List.getElem_cons_succ, Act.put, List.setIfInBounds_toArray, List.set_cons_zero, List.set_cons_succ]
  refine wpList_plain rfl fun K hK => ?_
  go_simp
  refine hK _ _ ?_
  clear hK K
  try simp only [List.getElem_toArray, List.getElem_cons_zero, List.getElem_cons_succ, Act.put, List.setIfInBounds_toArray, List.set_cons_zero, List.set_cons_succ]
  refine wpList_plain rfl fun K hK => ?_
  go_simp
  refine hK _ _ ?_
  clear hK K
  try simp only [List.getElem_toArray, List.getElem_cons_zero, List.getElem_cons_succ, Act.put, List.setIfInBounds_toArray, List.set_cons_zero, List.set_cons_succ]
  refine wpList_plain rfl fun K hK => ?_
  go_simp
  refine hK _ _ ?_
  clear hK K
  try simp only [List.getElem_toArray, List.getElem_cons_zero, List.getElem_cons_succ, Act.put, List.setIfInBounds_toArray, List.set_cons_zero, List.set_cons_succ]
  refine wpList_store_row rfl 43 _ _ rfl (w.heap.size + 1) #[.int .u32 (pr : Int), .int .i64 pn, .int .i64 (sn + 1), .bool false, .int .u32 0, .int .i64 0, .int .i64 0, .int .i64 0, .int .i64 0, .slice none 0 0, .slice none 0 0, .int .i64 0, .int .i64 0, .int .i64 0, .int .u64 0, .bool false] rfl rfl 43 _ Zr info16l rfl (by simp [Value.oneCell']) ?_
  have Zf := setRow_heap wx (w.heap.size + 1) _ #[.int .u32 (pr : Int), .int .i64 pn, .int .i64 (sn + 1), .bool false, .int .u32 0, .int .i64 0, .int .i64 0, .int .i64 0, .int .i64 0, .slice none 0 0, .slice none 0 0, .int .i64 0, .int .i64 0, .int .i64 0, .int .u64 0, .bool false] _ _ Zr
  have BZ : Below w.heap.size w (wx.setRow (w.heap.size + 1) #[.int .u32 (pr : Int), .int .i64 pn, .int .i64 (sn + 1), .bool false, .int .u32 0, .int .i64 0, .int .i64 0, .int .i64 0, .int .i64 0, .slice none 0 0, .slice none 0 0, .int .i64 0, .int .i64 0, .int .i64 0, .int .u64 0, .bool false]) := belowRow e1 Zr (by omega)
  clear Za Zr a0 a1 a2 a3 a4 a5 a6 a7 a8 a9 a10 a11 a12 a13 a14 a15
  generalize wx.setRow (w.heap.size + 1) #[.int .u32 (pr : Int), .int .i64 pn, .int .i64 (sn + 1), .bool false, .int .u32 0, .int .i64 0, .int .i64 0, .int .i64 0, .int .i64 0, .slice none 0 0, .slice none 0 0, .int .i64 0, .int .i64 0, .int .i64 0, .int .u64 0, .bool false] = wz at Zf BZ ⊢
  have r0 := cellAt Zf 0
  have r1 := cellAt Zf 1
  have r2 := cellAt Zf 2
  have r3 := cellAt Zf 3
  have r4 := cellAt Zf 4
  have r5 := cellAt Zf 5
  have r6 := cellAt Zf 6
  have r7 := cellAt Zf 7
  have r8 := cellAt Zf 8
  have r9 := cellAt Zf 9
  have r10 := cellAt Zf 10
  have r11 := cellAt Zf 11
  have r12 := cellAt Zf 12
  have r13 := cellAt Zf 13
  have r14 := cellAt Zf 14
  have r15 := cellAt Zf 15
  simp only [List.getElem?_toArray, List.getElem?_cons_zero, List.getElem?_cons_succ] at r0 r1 r2 r3 r4 r5 r6 r7 r8 r9 r10 r11 r12 r13 r14 r15
  go_wp2_with fail
  refine bodyPost_ret (v := .tuple #[.agg #[.int .u32 (pr : Int), .int .i64 pn, .int .i64 (sn + 1), .bool false, .int .u32 0, .int .i64 0, .int .i64 0, .int .i64 0, .int .i64 0, .slice none 0 0, .slice none 0 0, .int .i64 0, .int .i64 0, .int .i64 0, .int .u64 0, .bool false], .bool true]) (by simp [results, Tryd.results69, go_sem, r0, r1, r2, r3, r4, r5, r6, r7, r8, r9, r10, r11, r12, r13, r14, r15]) rfl ⟨rfl, BZ⟩
end Go.Proofs.YtbahooohkigcnaaDoor
