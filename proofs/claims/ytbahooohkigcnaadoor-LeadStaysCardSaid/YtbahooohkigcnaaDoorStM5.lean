/- The program's leader: what it does, whatever it says. Conditions: what lies, lies below; the tables lie. (Printed by gen_stays.py.) -/
import Derived.Test.YtbahooohkigcnaaDoorStM3
import Derived.Test.YtbahooohkigcnaaDoorStM2
namespace Go.Proofs.YtbahooohkigcnaaDoor
set_option maxRecDepth 20000
open Go.RowKit T Ag
set_option linter.unusedSimpArgs false
set_option linter.unusedVariables false

/-- does a leader take a promise? -/
def T.Ld.promises (L : Ld) (k : Int) (br : Nat) (bn : Int) (a : Ac) : Bool := (decide (br = L.br ∧ bn = L.bn) && !decide (br = 0 ∧ bn = 0) && a.formed && decide (0 ≤ k) && decide (k < L.n) && !Q.hasB L.pr k)
set_option maxHeartbeats 12800000 in
theorem lpromise_no (w : World) (h : Nat) (L : Ld) (k : Int) (br : Nat) (bn : Int) (a : Ac) (hL : LdAt w h L) (hp : L.pr < 18446744073709551616) (ok : CmOk w w.heap.size a.c) (hT : Tabs w) (hno : L.promises k br bn a = false) :
    Calls Tryd.prog 36 #[.pointer (some ⟨h, 0, none⟩), .int .i64 k, bal br bn, .agg a.cells.toArray] w fun e w' => e = .returned (.bool false) ∧ Below w.heap.size w w' := by
  have hlt : h < w.heap.size := (Array.getElem?_eq_some_iff.1 hL).1
  have HNO := Lib.hid hno
  unfold T.Ld.promises at HNO
  have hI := run_neBal br bn L.br L.bn
  have hJ : ∀ z, (binOp .eql 28 (.agg #[.int .u32 (br : Int), .int .i64 bn]) (.agg #[.int .u32 0, .int .i64 0])).run Tryd.prog z = .ok (.bool (decide (br = 0 ∧ bn = 0))) z := fun z => run_eqBal9 br bn 0 0 z
  have HFO := Lib.hid (fun z (hz : Below w.heap.size w z) => c_formed a z w.heap.size hz.size (ok.below hz (Nat.le_refl _)) (hT.below hz))
  have HHA := Lib.hid (fun z => has_any L.pr k z hp)
  rw [show decide (0 ≤ k) = !decide (k < 0) by by_cases q : k < 0 <;> simp [q] <;> omega, show decide (k < L.n) = !decide (L.n ≤ k) by by_cases q : L.n ≤ k <;> simp [q] <;> omega] at HNO
  generalize decide (br = L.br ∧ bn = L.bn) = e1 at hI HNO
  generalize decide (br = 0 ∧ bn = 0) = d2 at hJ HNO
  generalize a.formed = d3 at HFO HNO
  generalize Q.hasB L.pr k = d6 at HHA HNO
  generalize h4 : decide (k < 0) = d4 at HNO
  generalize h5 : decide (L.n ≤ k) = d5 at HNO
  clear hno ok hT hp
  obtain ⟨w0, hw0⟩ : ∃ w0, w0 = (w.alloc (.cells [.int .u32 (br : Int), .int .i64 bn].toArray 28)).alloc (.cells a.cells.toArray 39) := ⟨_, rfl⟩
  have ee : Below w.heap.size w w0 := by rw [hw0]; exact ((Below.refl _ _).alloc (Nat.le_refl _) _).alloc (by simp) _
  have Zl : w0.heap[h]? = some (.cells L.cells.toArray 144) := by rw [hw0]; exact hpA (hpA hL _) _
  have Zb : w0.heap[w.heap.size]? = some (.cells [.int .u32 (br : Int), .int .i64 bn].toArray 28) := by rw [hw0]; exact hpA (hpN _ _ rfl) _
  have Za : w0.heap[w.heap.size + 1]? = some (.cells a.cells.toArray 39) := by rw [hw0]; exact hpN _ _ (by simp)
  go_enter Tryd.func36, Tryd.ntmps36
  go_upto_region 1 with fail
  change Code.wp _ _ _ _ ((w.alloc (.cells [.int .u32 (br : Int), .int .i64 bn].toArray 28)).alloc (.cells a.cells.toArray 39))
  rw [← hw0]
  clear hw0 hL
  obtain ⟨d1, hd1⟩ : ∃ d1, d1 = !e1 := ⟨_, rfl⟩
  rw [← hd1] at hI
  have HE1 := Lib.hid hd1
  clear hd1
  cases d1 with
  | true =>
    have Zl : w0.drew.heap[h]? = some (.cells L.cells.toArray 144) := Zl
    have Zb : w0.drew.heap[w.heap.size]? = some (.cells [.int .u32 (br : Int), .int .i64 bn].toArray 28) := Zb
    have Za : w0.drew.heap[w.heap.size + 1]? = some (.cells a.cells.toArray 39) := Za
    have ee := belowDrewS ee
    refine wp_region_held_drew (S := fun z' => z'.rangeAt w.heap.size (0) ([.int .u32 (br : Int), .int .i64 bn]) ∧ z'.rangeAt h (2) ([.int .u32 (L.br : Int), .int .i64 L.bn])) (by kernel_rfl) ⟨(rowAt Zb), (rowMid Zl (2) (Ld.ballot L))⟩ (fun hH => ?_)
    clear hH
    generalize w0.drew = z1 at Zl Zb Za ee ⊢
    refine wpAnyH_take (i := 0) (v := .pointer (some ⟨h, 0, none⟩)) rfl (by kernel_rfl) (by kernel_rfl) (by kernel_rfl) (fun _ _ _ h => h) (Or.inl ⟨by rfl, fun w_ hS_ => by (first | (go_simp; done) | (go_simp; rfl))⟩) ⟨(rowAt Zb), (rowMid Zl (2) (Ld.ballot L))⟩ ?_
    try simp only [Act.put, List.getElem_toArray, List.getElem_cons_zero, List.getElem_cons_succ, List.setIfInBounds_toArray, List.set_cons_zero, List.set_cons_succ]
    refine wpAnyH_take (i := 1) (v := .bool false) rfl (by kernel_rfl) (by kernel_rfl) (by kernel_rfl) (fun _ _ _ h => h) (Or.inl ⟨by rfl, fun w_ hS_ => by (first | (go_simp; done) | (go_simp; rfl))⟩) ⟨(rowAt Zb), (rowMid Zl (2) (Ld.ballot L))⟩ ?_
    try simp only [Act.put, List.getElem_toArray, List.getElem_cons_zero, List.getElem_cons_succ, List.setIfInBounds_toArray, List.set_cons_zero, List.set_cons_succ]
    refine wpAnyH_take (i := 2) (v := .bool false) rfl (by kernel_rfl) (by kernel_rfl) (by kernel_rfl) (fun _ _ _ h => h) (Or.inl ⟨by rfl, fun w_ hS_ => by (first | (go_simp; done) | (go_simp; rfl))⟩) ⟨(rowAt Zb), (rowMid Zl (2) (Ld.ballot L))⟩ ?_
    try simp only [Act.put, List.getElem_toArray, List.getElem_cons_zero, List.getElem_cons_succ, List.setIfInBounds_toArray, List.set_cons_zero, List.set_cons_succ]
    refine wpAnyH_take (i := 3) (v := .agg ([.int .u32 (br : Int), .int .i64 bn]).toArray) rfl (by kernel_rfl) (by kernel_rfl) (by kernel_rfl) (fun _ _ _ h => h) (yieldsIf_load_mid (by rfl) 28 _ rfl (w.heap.size) (0) rfl ([.int .u32 (br : Int), .int .i64 bn]) _ (fun _ h => h.1) Tryd.underlying28 rfl sizeBal) ⟨(rowAt Zb), (rowMid Zl (2) (Ld.ballot L))⟩ ?_
    try simp only [Act.put, List.getElem_toArray, List.getElem_cons_zero, List.getElem_cons_succ, List.setIfInBounds_toArray, List.set_cons_zero, List.set_cons_succ]
    refine wpAnyH_take (i := 4) (v := .pointer (some ⟨h, 0, none⟩)) rfl (by kernel_rfl) (by kernel_rfl) (by kernel_rfl) (fun _ _ _ h => h) (Or.inl ⟨by rfl, fun w_ hS_ => by (first | (go_simp; done) | (go_simp; rfl))⟩) ⟨(rowAt Zb), (rowMid Zl (2) (Ld.ballot L))⟩ ?_
    try simp only [Act.put, List.getElem_toArray, List.getElem_cons_zero, List.getElem_cons_succ, List.setIfInBounds_toArray, List.set_cons_zero, List.set_cons_succ]
    refine wpAnyH_take (i := 5) (v := .pointer (some ⟨h, 0, none⟩)) rfl (by kernel_rfl) (by kernel_rfl) (by kernel_rfl) (fun _ _ _ h => h) (Or.inl ⟨by rfl, fun w_ hS_ => by (first | (go_simp; done) | (go_simp; rfl))⟩) ⟨(rowAt Zb), (rowMid Zl (2) (Ld.ballot L))⟩ ?_
    try simp only [Act.put, List.getElem_toArray, List.getElem_cons_zero, List.getElem_cons_succ, List.setIfInBounds_toArray, List.set_cons_zero, List.set_cons_succ]
    refine wpAnyH_take (i := 6) (v := .pointer (some ⟨h, 2, none⟩)) rfl (by kernel_rfl) (by kernel_rfl) (by kernel_rfl) (fun _ _ _ h => h) (Or.inl ⟨by rfl, fun w_ hS_ => by (first | (go_simp; done) | (go_simp; rfl))⟩) ⟨(rowAt Zb), (rowMid Zl (2) (Ld.ballot L))⟩ ?_
    try simp only [Act.put, List.getElem_toArray, List.getElem_cons_zero, List.getElem_cons_succ, List.setIfInBounds_toArray, List.set_cons_zero, List.set_cons_succ]
    refine wpAnyH_take (i := 7) (v := .agg ([.int .u32 (L.br : Int), .int .i64 L.bn]).toArray) rfl (by kernel_rfl) (by kernel_rfl) (by kernel_rfl) (fun _ _ _ h => h) (yieldsIf_load_mid (by rfl) 28 _ rfl (h) (2) rfl ([.int .u32 (L.br : Int), .int .i64 L.bn]) _ (fun _ h => h.2) Tryd.underlying28 rfl sizeBal) ⟨(rowAt Zb), (rowMid Zl (2) (Ld.ballot L))⟩ ?_
    try simp only [Act.put, List.getElem_toArray, List.getElem_cons_zero, List.getElem_cons_succ, List.setIfInBounds_toArray, List.set_cons_zero, List.set_cons_succ]
    refine wpAnyH_take (i := 8) (v := .bool true) rfl (by kernel_rfl) (by kernel_rfl) (by kernel_rfl) (fun _ _ _ h => h) (Or.inl ⟨by rfl, fun w_ hS_ => by (first | (go_simp; done) | (go_simp; rfl))⟩) ⟨(rowAt Zb), (rowMid Zl (2) (Ld.ballot L))⟩ ?_
    try simp only [Act.put, List.getElem_toArray, List.getElem_cons_zero, List.getElem_cons_succ, List.setIfInBounds_toArray, List.set_cons_zero, List.set_cons_succ]
    refine wpAnyH_take (i := 9) (v := .bool true) rfl (by kernel_rfl) (by kernel_rfl) (by kernel_rfl) (fun _ _ _ h => h) (Or.inl ⟨by rfl, fun w_ hS_ => by (first | (go_simp; done) | (go_simp; rfl))⟩) ⟨(rowAt Zb), (rowMid Zl (2) (Ld.ballot L))⟩ ?_
    try simp only [Act.put, List.getElem_toArray, List.getElem_cons_zero, List.getElem_cons_succ, List.setIfInBounds_toArray, List.set_cons_zero, List.set_cons_succ]
    refine wpAnyH_take (i := 10) (v := .bool true) rfl (by kernel_rfl) (by kernel_rfl) (by kernel_rfl) (fun _ _ _ h => h) (Or.inl ⟨by rfl, fun w_ hS_ => by (first | (go_simp; done) | (go_simp; rfl))⟩) ⟨(rowAt Zb), (rowMid Zl (2) (Ld.ballot L))⟩ ?_
    try simp only [Act.put, List.getElem_toArray, List.getElem_cons_zero, List.getElem_cons_succ, List.setIfInBounds_toArray, List.set_cons_zero, List.set_cons_succ]
    refine wpAnyH_take (i := 11) (v := undef) rfl (by kernel_rfl) (by kernel_rfl) (by kernel_rfl) (fun _ _ _ h => h) (Or.inr ⟨by rfl, rfl⟩) ⟨(rowAt Zb), (rowMid Zl (2) (Ld.ballot L))⟩ ?_
    try simp only [Act.put, List.getElem_toArray, List.getElem_cons_zero, List.getElem_cons_succ, List.setIfInBounds_toArray, List.set_cons_zero, List.set_cons_succ]
    refine wpAnyH_take (i := 12) (v := undef) rfl (by kernel_rfl) (by kernel_rfl) (by kernel_rfl) (fun _ _ _ h => h) (Or.inr ⟨by rfl, rfl⟩) ⟨(rowAt Zb), (rowMid Zl (2) (Ld.ballot L))⟩ ?_
    try simp only [Act.put, List.getElem_toArray, List.getElem_cons_zero, List.getElem_cons_succ, List.setIfInBounds_toArray, List.set_cons_zero, List.set_cons_succ]
    refine wpAnyH_take (i := 13) (v := undef) rfl (by kernel_rfl) (by kernel_rfl) (by kernel_rfl) (fun _ _ _ h => h) (Or.inr ⟨by rfl, rfl⟩) ⟨(rowAt Zb), (rowMid Zl (2) (Ld.ballot L))⟩ ?_
    try simp only [Act.put, List.getElem_toArray, List.getElem_cons_zero, List.getElem_cons_succ, List.setIfInBounds_toArray, List.set_cons_zero, List.set_cons_succ]
    refine wpAnyH_take (i := 14) (v := .bool true) rfl (by kernel_rfl) (by kernel_rfl) (by kernel_rfl) (fun _ _ _ h => h) (Or.inl ⟨by rfl, fun w_ hS_ => by (first | (go_simp; done) | (go_simp; rfl))⟩) ⟨(rowAt Zb), (rowMid Zl (2) (Ld.ballot L))⟩ ?_
    try simp only [Act.put, List.getElem_toArray, List.getElem_cons_zero, List.getElem_cons_succ, List.setIfInBounds_toArray, List.set_cons_zero, List.set_cons_succ]
    refine wpAnyH_take (i := 15) (v := .bool true) rfl (by kernel_rfl) (by kernel_rfl) (by kernel_rfl) (fun _ _ _ h => h) (Or.inl ⟨by rfl, fun w_ hS_ => by (first | (go_simp; done) | (go_simp; rfl))⟩) ⟨(rowAt Zb), (rowMid Zl (2) (Ld.ballot L))⟩ ?_
    try simp only [Act.put, List.getElem_toArray, List.getElem_cons_zero, List.getElem_cons_succ, List.setIfInBounds_toArray, List.set_cons_zero, List.set_cons_succ]
    refine wpAnyH_take (i := 16) (v := undef) rfl (by kernel_rfl) (by kernel_rfl) (by kernel_rfl) (fun _ _ _ h => h) (Or.inr ⟨by rfl, rfl⟩) ⟨(rowAt Zb), (rowMid Zl (2) (Ld.ballot L))⟩ ?_
    try simp only [Act.put, List.getElem_toArray, List.getElem_cons_zero, List.getElem_cons_succ, List.setIfInBounds_toArray, List.set_cons_zero, List.set_cons_succ]
    refine wpAnyH_take (i := 17) (v := undef) rfl (by kernel_rfl) (by kernel_rfl) (by kernel_rfl) (fun _ _ _ h => h) (Or.inr ⟨by rfl, rfl⟩) ⟨(rowAt Zb), (rowMid Zl (2) (Ld.ballot L))⟩ ?_
    try simp only [Act.put, List.getElem_toArray, List.getElem_cons_zero, List.getElem_cons_succ, List.setIfInBounds_toArray, List.set_cons_zero, List.set_cons_succ]
    refine wpAnyH_take (i := 18) (v := undef) rfl (by kernel_rfl) (by kernel_rfl) (by kernel_rfl) (fun _ _ _ h => h) (Or.inr ⟨by rfl, rfl⟩) ⟨(rowAt Zb), (rowMid Zl (2) (Ld.ballot L))⟩ ?_
    try simp only [Act.put, List.getElem_toArray, List.getElem_cons_zero, List.getElem_cons_succ, List.setIfInBounds_toArray, List.set_cons_zero, List.set_cons_succ]
    refine wpAnyH_take (i := 19) (v := .bool true) rfl (by kernel_rfl) (by kernel_rfl) (by kernel_rfl) (fun _ _ _ h => h) (Or.inl ⟨by rfl, fun w_ hS_ => by (first | (go_simp; done) | (go_simp; rfl))⟩) ⟨(rowAt Zb), (rowMid Zl (2) (Ld.ballot L))⟩ ?_
    try simp only [Act.put, List.getElem_toArray, List.getElem_cons_zero, List.getElem_cons_succ, List.setIfInBounds_toArray, List.set_cons_zero, List.set_cons_succ]
    refine wpAnyH_take (i := 20) (v := .bool true) rfl (by kernel_rfl) (by kernel_rfl) (by kernel_rfl) (fun _ _ _ h => h) (Or.inl ⟨by rfl, fun w_ hS_ => by (first | (go_simp; done) | (go_simp; rfl))⟩) ⟨(rowAt Zb), (rowMid Zl (2) (Ld.ballot L))⟩ ?_
    try simp only [Act.put, List.getElem_toArray, List.getElem_cons_zero, List.getElem_cons_succ, List.setIfInBounds_toArray, List.set_cons_zero, List.set_cons_succ]
    refine wpAnyH_take (i := 21) (v := undef) rfl (by kernel_rfl) (by kernel_rfl) (by kernel_rfl) (fun _ _ _ h => h) (Or.inr ⟨by rfl, rfl⟩) ⟨(rowAt Zb), (rowMid Zl (2) (Ld.ballot L))⟩ ?_
    try simp only [Act.put, List.getElem_toArray, List.getElem_cons_zero, List.getElem_cons_succ, List.setIfInBounds_toArray, List.set_cons_zero, List.set_cons_succ]
    refine wpAnyH_take (i := 22) (v := undef) rfl (by kernel_rfl) (by kernel_rfl) (by kernel_rfl) (fun _ _ _ h => h) (Or.inr ⟨by rfl, rfl⟩) ⟨(rowAt Zb), (rowMid Zl (2) (Ld.ballot L))⟩ ?_
    try simp only [Act.put, List.getElem_toArray, List.getElem_cons_zero, List.getElem_cons_succ, List.setIfInBounds_toArray, List.set_cons_zero, List.set_cons_succ]
    refine wpAnyH_take (i := 23) (v := .bool true) rfl (by kernel_rfl) (by kernel_rfl) (by kernel_rfl) (fun _ _ _ h => h) (Or.inl ⟨by rfl, fun w_ hS_ => by (first | (go_simp; done) | (go_simp; rfl))⟩) ⟨(rowAt Zb), (rowMid Zl (2) (Ld.ballot L))⟩ ?_
    try simp only [Act.put, List.getElem_toArray, List.getElem_cons_zero, List.getElem_cons_succ, List.setIfInBounds_toArray, List.set_cons_zero, List.set_cons_succ]
    refine wpAnyH_take (i := 24) (v := .bool true) rfl (by kernel_rfl) (by kernel_rfl) (by kernel_rfl) (fun _ _ _ h => h) (Or.inl ⟨by rfl, fun w_ hS_ => by (first | (go_simp; done) | (go_simp; rfl))⟩) ⟨(rowAt Zb), (rowMid Zl (2) (Ld.ballot L))⟩ ?_
    try simp only [Act.put, List.getElem_toArray, List.getElem_cons_zero, List.getElem_cons_succ, List.setIfInBounds_toArray, List.set_cons_zero, List.set_cons_succ]
    refine wpAnyH_take (i := 25) (v := undef) rfl (by kernel_rfl) (by kernel_rfl) (by kernel_rfl) (fun _ _ _ h => h) (Or.inr ⟨by rfl, rfl⟩) ⟨(rowAt Zb), (rowMid Zl (2) (Ld.ballot L))⟩ ?_
    try simp only [Act.put, List.getElem_toArray, List.getElem_cons_zero, List.getElem_cons_succ, List.setIfInBounds_toArray, List.set_cons_zero, List.set_cons_succ]
    refine wpAnyH_take (i := 26) (v := undef) rfl (by kernel_rfl) (by kernel_rfl) (by kernel_rfl) (fun _ _ _ h => h) (Or.inr ⟨by rfl, rfl⟩) ⟨(rowAt Zb), (rowMid Zl (2) (Ld.ballot L))⟩ ?_
    try simp only [Act.put, List.getElem_toArray, List.getElem_cons_zero, List.getElem_cons_succ, List.setIfInBounds_toArray, List.set_cons_zero, List.set_cons_succ]
    refine wpAnyH_take (i := 27) (v := undef) rfl (by kernel_rfl) (by kernel_rfl) (by kernel_rfl) (fun _ _ _ h => h) (Or.inr ⟨by rfl, rfl⟩) ⟨(rowAt Zb), (rowMid Zl (2) (Ld.ballot L))⟩ ?_
    try simp only [Act.put, List.getElem_toArray, List.getElem_cons_zero, List.getElem_cons_succ, List.setIfInBounds_toArray, List.set_cons_zero, List.set_cons_succ]
    refine wpAnyH_take (i := 28) (v := undef) rfl (by kernel_rfl) (by kernel_rfl) (by kernel_rfl) (fun _ _ _ h => h) (Or.inr ⟨by rfl, rfl⟩) ⟨(rowAt Zb), (rowMid Zl (2) (Ld.ballot L))⟩ ?_
    try simp only [Act.put, List.getElem_toArray, List.getElem_cons_zero, List.getElem_cons_succ, List.setIfInBounds_toArray, List.set_cons_zero, List.set_cons_succ]
    refine wpAnyH_take (i := 29) (v := undef) rfl (by kernel_rfl) (by kernel_rfl) (by kernel_rfl) (fun _ _ _ h => h) (Or.inr ⟨by rfl, rfl⟩) ⟨(rowAt Zb), (rowMid Zl (2) (Ld.ballot L))⟩ ?_
    try simp only [Act.put, List.getElem_toArray, List.getElem_cons_zero, List.getElem_cons_succ, List.setIfInBounds_toArray, List.set_cons_zero, List.set_cons_succ]
    refine wpAnyH_take (i := 30) (v := undef) rfl (by kernel_rfl) (by kernel_rfl) (by kernel_rfl) (fun _ _ _ h => h) (Or.inr ⟨by rfl, rfl⟩) ⟨(rowAt Zb), (rowMid Zl (2) (Ld.ballot L))⟩ ?_
    try simp only [Act.put, List.getElem_toArray, List.getElem_cons_zero, List.getElem_cons_succ, List.setIfInBounds_toArray, List.set_cons_zero, List.set_cons_succ]
    refine wpAnyH_take (i := 31) (v := .bool true) rfl (by kernel_rfl) (by kernel_rfl) (by kernel_rfl) (fun _ _ _ h => h) (Or.inl ⟨by rfl, fun w_ hS_ => by (first | (go_simp; done) | (go_simp; rfl))⟩) ⟨(rowAt Zb), (rowMid Zl (2) (Ld.ballot L))⟩ ?_
    try simp only [Act.put, List.getElem_toArray, List.getElem_cons_zero, List.getElem_cons_succ, List.setIfInBounds_toArray, List.set_cons_zero, List.set_cons_succ]
    refine wpAnyH_take (i := 32) (v := .bool true) rfl (by kernel_rfl) (by kernel_rfl) (by kernel_rfl) (fun _ _ _ h => h) (Or.inl ⟨by rfl, fun w_ hS_ => by (first | (go_simp; done) | (go_simp; rfl))⟩) ⟨(rowAt Zb), (rowMid Zl (2) (Ld.ballot L))⟩ ?_
    try simp only [Act.put, List.getElem_toArray, List.getElem_cons_zero, List.getElem_cons_succ, List.setIfInBounds_toArray, List.set_cons_zero, List.set_cons_succ]
    refine wpAnyH_take (i := 33) (v := undef) rfl (by kernel_rfl) (by kernel_rfl) (by kernel_rfl) (fun _ _ _ h => h) (Or.inr ⟨by rfl, rfl⟩) ⟨(rowAt Zb), (rowMid Zl (2) (Ld.ballot L))⟩ ?_
    try simp only [Act.put, List.getElem_toArray, List.getElem_cons_zero, List.getElem_cons_succ, List.setIfInBounds_toArray, List.set_cons_zero, List.set_cons_succ]
    refine wpAnyH_take (i := 34) (v := undef) rfl (by kernel_rfl) (by kernel_rfl) (by kernel_rfl) (fun _ _ _ h => h) (Or.inr ⟨by rfl, rfl⟩) ⟨(rowAt Zb), (rowMid Zl (2) (Ld.ballot L))⟩ ?_
    try simp only [Act.put, List.getElem_toArray, List.getElem_cons_zero, List.getElem_cons_succ, List.setIfInBounds_toArray, List.set_cons_zero, List.set_cons_succ]
    refine wpAnyH_take (i := 35) (v := undef) rfl (by kernel_rfl) (by kernel_rfl) (by kernel_rfl) (fun _ _ _ h => h) (Or.inr ⟨by rfl, rfl⟩) ⟨(rowAt Zb), (rowMid Zl (2) (Ld.ballot L))⟩ ?_
    try simp only [Act.put, List.getElem_toArray, List.getElem_cons_zero, List.getElem_cons_succ, List.setIfInBounds_toArray, List.set_cons_zero, List.set_cons_succ]
    refine wpAnyH_take (i := 36) (v := undef) rfl (by kernel_rfl) (by kernel_rfl) (by kernel_rfl) (fun _ _ _ h => h) (Or.inr ⟨by rfl, rfl⟩) ⟨(rowAt Zb), (rowMid Zl (2) (Ld.ballot L))⟩ ?_
    try simp only [Act.put, List.getElem_toArray, List.getElem_cons_zero, List.getElem_cons_succ, List.setIfInBounds_toArray, List.set_cons_zero, List.set_cons_succ]
    refine wpAnyH_take (i := 37) (v := undef) rfl (by kernel_rfl) (by kernel_rfl) (by kernel_rfl) (fun _ _ _ h => h) (Or.inr ⟨by rfl, rfl⟩) ⟨(rowAt Zb), (rowMid Zl (2) (Ld.ballot L))⟩ ?_
    try simp only [Act.put, List.getElem_toArray, List.getElem_cons_zero, List.getElem_cons_succ, List.setIfInBounds_toArray, List.set_cons_zero, List.set_cons_succ]
    refine wpAnyH_take (i := 38) (v := undef) rfl (by kernel_rfl) (by kernel_rfl) (by kernel_rfl) (fun _ _ _ h => h) (Or.inr ⟨by rfl, rfl⟩) ⟨(rowAt Zb), (rowMid Zl (2) (Ld.ballot L))⟩ ?_
    try simp only [Act.put, List.getElem_toArray, List.getElem_cons_zero, List.getElem_cons_succ, List.setIfInBounds_toArray, List.set_cons_zero, List.set_cons_succ]
    refine wpAnyH_take (i := 39) (v := .bool true) rfl (by kernel_rfl) (by kernel_rfl) (by kernel_rfl) (fun _ _ _ h => h) (Or.inl ⟨by rfl, fun w_ hS_ => by (first | (go_simp; done) | (go_simp; rfl))⟩) ⟨(rowAt Zb), (rowMid Zl (2) (Ld.ballot L))⟩ ?_
    try simp only [Act.put, List.getElem_toArray, List.getElem_cons_zero, List.getElem_cons_succ, List.setIfInBounds_toArray, List.set_cons_zero, List.set_cons_succ]
    refine wpAnyH_done (by kernel_rfl) ?_ _
    clear HHA HFO hI hJ h4 h5 HE1
    go_wp2_with fail
    go_ret
    exact ⟨rfl, ee⟩
  | false =>
    cases d2 with
    | true =>
      have Zl : w0.drew.heap[h]? = some (.cells L.cells.toArray 144) := Zl
      have Zb : w0.drew.heap[w.heap.size]? = some (.cells [.int .u32 (br : Int), .int .i64 bn].toArray 28) := Zb
      have Za : w0.drew.heap[w.heap.size + 1]? = some (.cells a.cells.toArray 39) := Za
      have ee := belowDrewS ee
      refine wp_region_held_drew (S := fun z' => z'.rangeAt w.heap.size (0) ([.int .u32 (br : Int), .int .i64 bn]) ∧ z'.rangeAt h (2) ([.int .u32 (L.br : Int), .int .i64 L.bn])) (by kernel_rfl) ⟨(rowAt Zb), (rowMid Zl (2) (Ld.ballot L))⟩ (fun hH => ?_)
      clear hH
      generalize w0.drew = z1 at Zl Zb Za ee ⊢
      refine wpAnyH_take (i := 0) (v := .pointer (some ⟨h, 0, none⟩)) rfl (by kernel_rfl) (by kernel_rfl) (by kernel_rfl) (fun _ _ _ h => h) (Or.inl ⟨by rfl, fun w_ hS_ => by (first | (go_simp; done) | (go_simp; rfl))⟩) ⟨(rowAt Zb), (rowMid Zl (2) (Ld.ballot L))⟩ ?_
      try simp only [Act.put, List.getElem_toArray, List.getElem_cons_zero, List.getElem_cons_succ, List.setIfInBounds_toArray, List.set_cons_zero, List.set_cons_succ]
      refine wpAnyH_take (i := 1) (v := .bool false) rfl (by kernel_rfl) (by kernel_rfl) (by kernel_rfl) (fun _ _ _ h => h) (Or.inl ⟨by rfl, fun w_ hS_ => by (first | (go_simp; done) | (go_simp; rfl))⟩) ⟨(rowAt Zb), (rowMid Zl (2) (Ld.ballot L))⟩ ?_
      try simp only [Act.put, List.getElem_toArray, List.getElem_cons_zero, List.getElem_cons_succ, List.setIfInBounds_toArray, List.set_cons_zero, List.set_cons_succ]
      refine wpAnyH_take (i := 2) (v := .bool false) rfl (by kernel_rfl) (by kernel_rfl) (by kernel_rfl) (fun _ _ _ h => h) (Or.inl ⟨by rfl, fun w_ hS_ => by (first | (go_simp; done) | (go_simp; rfl))⟩) ⟨(rowAt Zb), (rowMid Zl (2) (Ld.ballot L))⟩ ?_
      try simp only [Act.put, List.getElem_toArray, List.getElem_cons_zero, List.getElem_cons_succ, List.setIfInBounds_toArray, List.set_cons_zero, List.set_cons_succ]
      refine wpAnyH_take (i := 3) (v := .agg ([.int .u32 (br : Int), .int .i64 bn]).toArray) rfl (by kernel_rfl) (by kernel_rfl) (by kernel_rfl) (fun _ _ _ h => h) (yieldsIf_load_mid (by rfl) 28 _ rfl (w.heap.size) (0) rfl ([.int .u32 (br : Int), .int .i64 bn]) _ (fun _ h => h.1) Tryd.underlying28 rfl sizeBal) ⟨(rowAt Zb), (rowMid Zl (2) (Ld.ballot L))⟩ ?_
      try simp only [Act.put, List.getElem_toArray, List.getElem_cons_zero, List.getElem_cons_succ, List.setIfInBounds_toArray, List.set_cons_zero, List.set_cons_succ]
      refine wpAnyH_take (i := 4) (v := .pointer (some ⟨h, 0, none⟩)) rfl (by kernel_rfl) (by kernel_rfl) (by kernel_rfl) (fun _ _ _ h => h) (Or.inl ⟨by rfl, fun w_ hS_ => by (first | (go_simp; done) | (go_simp; rfl))⟩) ⟨(rowAt Zb), (rowMid Zl (2) (Ld.ballot L))⟩ ?_
      try simp only [Act.put, List.getElem_toArray, List.getElem_cons_zero, List.getElem_cons_succ, List.setIfInBounds_toArray, List.set_cons_zero, List.set_cons_succ]
      refine wpAnyH_take (i := 5) (v := .pointer (some ⟨h, 0, none⟩)) rfl (by kernel_rfl) (by kernel_rfl) (by kernel_rfl) (fun _ _ _ h => h) (Or.inl ⟨by rfl, fun w_ hS_ => by (first | (go_simp; done) | (go_simp; rfl))⟩) ⟨(rowAt Zb), (rowMid Zl (2) (Ld.ballot L))⟩ ?_
      try simp only [Act.put, List.getElem_toArray, List.getElem_cons_zero, List.getElem_cons_succ, List.setIfInBounds_toArray, List.set_cons_zero, List.set_cons_succ]
      refine wpAnyH_take (i := 6) (v := .pointer (some ⟨h, 2, none⟩)) rfl (by kernel_rfl) (by kernel_rfl) (by kernel_rfl) (fun _ _ _ h => h) (Or.inl ⟨by rfl, fun w_ hS_ => by (first | (go_simp; done) | (go_simp; rfl))⟩) ⟨(rowAt Zb), (rowMid Zl (2) (Ld.ballot L))⟩ ?_
      try simp only [Act.put, List.getElem_toArray, List.getElem_cons_zero, List.getElem_cons_succ, List.setIfInBounds_toArray, List.set_cons_zero, List.set_cons_succ]
      refine wpAnyH_take (i := 7) (v := .agg ([.int .u32 (L.br : Int), .int .i64 L.bn]).toArray) rfl (by kernel_rfl) (by kernel_rfl) (by kernel_rfl) (fun _ _ _ h => h) (yieldsIf_load_mid (by rfl) 28 _ rfl (h) (2) rfl ([.int .u32 (L.br : Int), .int .i64 L.bn]) _ (fun _ h => h.2) Tryd.underlying28 rfl sizeBal) ⟨(rowAt Zb), (rowMid Zl (2) (Ld.ballot L))⟩ ?_
      try simp only [Act.put, List.getElem_toArray, List.getElem_cons_zero, List.getElem_cons_succ, List.setIfInBounds_toArray, List.set_cons_zero, List.set_cons_succ]
      refine wpAnyH_take (i := 8) (v := .bool false) rfl (by kernel_rfl) (by kernel_rfl) (by kernel_rfl) (fun _ _ _ h => h) (Or.inl ⟨by rfl, fun w_ hS_ => by (first | (go_simp; done) | (go_simp; rfl))⟩) ⟨(rowAt Zb), (rowMid Zl (2) (Ld.ballot L))⟩ ?_
      try simp only [Act.put, List.getElem_toArray, List.getElem_cons_zero, List.getElem_cons_succ, List.setIfInBounds_toArray, List.set_cons_zero, List.set_cons_succ]
      refine wpAnyH_take (i := 9) (v := .bool false) rfl (by kernel_rfl) (by kernel_rfl) (by kernel_rfl) (fun _ _ _ h => h) (Or.inl ⟨by rfl, fun w_ hS_ => by (first | (go_simp; done) | (go_simp; rfl))⟩) ⟨(rowAt Zb), (rowMid Zl (2) (Ld.ballot L))⟩ ?_
      try simp only [Act.put, List.getElem_toArray, List.getElem_cons_zero, List.getElem_cons_succ, List.setIfInBounds_toArray, List.set_cons_zero, List.set_cons_succ]
      refine wpAnyH_take (i := 10) (v := .bool false) rfl (by kernel_rfl) (by kernel_rfl) (by kernel_rfl) (fun _ _ _ h => h) (Or.inl ⟨by rfl, fun w_ hS_ => by (first | (go_simp; done) | (go_simp; rfl))⟩) ⟨(rowAt Zb), (rowMid Zl (2) (Ld.ballot L))⟩ ?_
      try simp only [Act.put, List.getElem_toArray, List.getElem_cons_zero, List.getElem_cons_succ, List.setIfInBounds_toArray, List.set_cons_zero, List.set_cons_succ]
      refine wpAnyH_take (i := 11) (v := .agg ([.int .u32 (br : Int), .int .i64 bn]).toArray) rfl (by kernel_rfl) (by kernel_rfl) (by kernel_rfl) (fun _ _ _ h => h) (yieldsIf_load_mid (by rfl) 28 _ rfl (w.heap.size) (0) rfl ([.int .u32 (br : Int), .int .i64 bn]) _ (fun _ h => h.1) Tryd.underlying28 rfl sizeBal) ⟨(rowAt Zb), (rowMid Zl (2) (Ld.ballot L))⟩ ?_
      try simp only [Act.put, List.getElem_toArray, List.getElem_cons_zero, List.getElem_cons_succ, List.setIfInBounds_toArray, List.set_cons_zero, List.set_cons_succ]
      refine wpAnyH_take (i := 12) (v := .agg #[.int .u32 0, .int .i64 0]) rfl (by kernel_rfl) (by kernel_rfl) (by kernel_rfl) (fun _ _ _ h => h) (Or.inl ⟨by rfl, fun w_ hS_ => by (first | (go_simp; done) | (go_simp; rfl))⟩) ⟨(rowAt Zb), (rowMid Zl (2) (Ld.ballot L))⟩ ?_
      try simp only [Act.put, List.getElem_toArray, List.getElem_cons_zero, List.getElem_cons_succ, List.setIfInBounds_toArray, List.set_cons_zero, List.set_cons_succ]
      refine wpAnyH_take (i := 13) (v := .bool true) rfl (by kernel_rfl) (by kernel_rfl) (by kernel_rfl) (fun _ _ _ h => h) (Or.inl ⟨by rfl, fun w_ hS_ => by (first | (go_simp; done) | (go_simp; rfl))⟩) ⟨(rowAt Zb), (rowMid Zl (2) (Ld.ballot L))⟩ ?_
      try simp only [Act.put, List.getElem_toArray, List.getElem_cons_zero, List.getElem_cons_succ, List.setIfInBounds_toArray, List.set_cons_zero, List.set_cons_succ]
      refine wpAnyH_take (i := 14) (v := .bool true) rfl (by kernel_rfl) (by kernel_rfl) (by kernel_rfl) (fun _ _ _ h => h) (Or.inl ⟨by rfl, fun w_ hS_ => by (first | (go_simp; done) | (go_simp; rfl))⟩) ⟨(rowAt Zb), (rowMid Zl (2) (Ld.ballot L))⟩ ?_
      try simp only [Act.put, List.getElem_toArray, List.getElem_cons_zero, List.getElem_cons_succ, List.setIfInBounds_toArray, List.set_cons_zero, List.set_cons_succ]
      refine wpAnyH_take (i := 15) (v := .bool true) rfl (by kernel_rfl) (by kernel_rfl) (by kernel_rfl) (fun _ _ _ h => h) (Or.inl ⟨by rfl, fun w_ hS_ => by (first | (go_simp; done) | (go_simp; rfl))⟩) ⟨(rowAt Zb), (rowMid Zl (2) (Ld.ballot L))⟩ ?_
      try simp only [Act.put, List.getElem_toArray, List.getElem_cons_zero, List.getElem_cons_succ, List.setIfInBounds_toArray, List.set_cons_zero, List.set_cons_succ]
      refine wpAnyH_take (i := 16) (v := undef) rfl (by kernel_rfl) (by kernel_rfl) (by kernel_rfl) (fun _ _ _ h => h) (Or.inr ⟨by rfl, rfl⟩) ⟨(rowAt Zb), (rowMid Zl (2) (Ld.ballot L))⟩ ?_
      try simp only [Act.put, List.getElem_toArray, List.getElem_cons_zero, List.getElem_cons_succ, List.setIfInBounds_toArray, List.set_cons_zero, List.set_cons_succ]
      refine wpAnyH_take (i := 17) (v := undef) rfl (by kernel_rfl) (by kernel_rfl) (by kernel_rfl) (fun _ _ _ h => h) (Or.inr ⟨by rfl, rfl⟩) ⟨(rowAt Zb), (rowMid Zl (2) (Ld.ballot L))⟩ ?_
      try simp only [Act.put, List.getElem_toArray, List.getElem_cons_zero, List.getElem_cons_succ, List.setIfInBounds_toArray, List.set_cons_zero, List.set_cons_succ]
      refine wpAnyH_take (i := 18) (v := undef) rfl (by kernel_rfl) (by kernel_rfl) (by kernel_rfl) (fun _ _ _ h => h) (Or.inr ⟨by rfl, rfl⟩) ⟨(rowAt Zb), (rowMid Zl (2) (Ld.ballot L))⟩ ?_
      try simp only [Act.put, List.getElem_toArray, List.getElem_cons_zero, List.getElem_cons_succ, List.setIfInBounds_toArray, List.set_cons_zero, List.set_cons_succ]
      refine wpAnyH_take (i := 19) (v := .bool true) rfl (by kernel_rfl) (by kernel_rfl) (by kernel_rfl) (fun _ _ _ h => h) (Or.inl ⟨by rfl, fun w_ hS_ => by (first | (go_simp; done) | (go_simp; rfl))⟩) ⟨(rowAt Zb), (rowMid Zl (2) (Ld.ballot L))⟩ ?_
      try simp only [Act.put, List.getElem_toArray, List.getElem_cons_zero, List.getElem_cons_succ, List.setIfInBounds_toArray, List.set_cons_zero, List.set_cons_succ]
      refine wpAnyH_take (i := 20) (v := .bool true) rfl (by kernel_rfl) (by kernel_rfl) (by kernel_rfl) (fun _ _ _ h => h) (Or.inl ⟨by rfl, fun w_ hS_ => by (first | (go_simp; done) | (go_simp; rfl))⟩) ⟨(rowAt Zb), (rowMid Zl (2) (Ld.ballot L))⟩ ?_
      try simp only [Act.put, List.getElem_toArray, List.getElem_cons_zero, List.getElem_cons_succ, List.setIfInBounds_toArray, List.set_cons_zero, List.set_cons_succ]
      refine wpAnyH_take (i := 21) (v := undef) rfl (by kernel_rfl) (by kernel_rfl) (by kernel_rfl) (fun _ _ _ h => h) (Or.inr ⟨by rfl, rfl⟩) ⟨(rowAt Zb), (rowMid Zl (2) (Ld.ballot L))⟩ ?_
      try simp only [Act.put, List.getElem_toArray, List.getElem_cons_zero, List.getElem_cons_succ, List.setIfInBounds_toArray, List.set_cons_zero, List.set_cons_succ]
      refine wpAnyH_take (i := 22) (v := undef) rfl (by kernel_rfl) (by kernel_rfl) (by kernel_rfl) (fun _ _ _ h => h) (Or.inr ⟨by rfl, rfl⟩) ⟨(rowAt Zb), (rowMid Zl (2) (Ld.ballot L))⟩ ?_
      try simp only [Act.put, List.getElem_toArray, List.getElem_cons_zero, List.getElem_cons_succ, List.setIfInBounds_toArray, List.set_cons_zero, List.set_cons_succ]
      refine wpAnyH_take (i := 23) (v := .bool true) rfl (by kernel_rfl) (by kernel_rfl) (by kernel_rfl) (fun _ _ _ h => h) (Or.inl ⟨by rfl, fun w_ hS_ => by (first | (go_simp; done) | (go_simp; rfl))⟩) ⟨(rowAt Zb), (rowMid Zl (2) (Ld.ballot L))⟩ ?_
      try simp only [Act.put, List.getElem_toArray, List.getElem_cons_zero, List.getElem_cons_succ, List.setIfInBounds_toArray, List.set_cons_zero, List.set_cons_succ]
      refine wpAnyH_take (i := 24) (v := .bool true) rfl (by kernel_rfl) (by kernel_rfl) (by kernel_rfl) (fun _ _ _ h => h) (Or.inl ⟨by rfl, fun w_ hS_ => by (first | (go_simp; done) | (go_simp; rfl))⟩) ⟨(rowAt Zb), (rowMid Zl (2) (Ld.ballot L))⟩ ?_
      try simp only [Act.put, List.getElem_toArray, List.getElem_cons_zero, List.getElem_cons_succ, List.setIfInBounds_toArray, List.set_cons_zero, List.set_cons_succ]
      refine wpAnyH_take (i := 25) (v := undef) rfl (by kernel_rfl) (by kernel_rfl) (by kernel_rfl) (fun _ _ _ h => h) (Or.inr ⟨by rfl, rfl⟩) ⟨(rowAt Zb), (rowMid Zl (2) (Ld.ballot L))⟩ ?_
      try simp only [Act.put, List.getElem_toArray, List.getElem_cons_zero, List.getElem_cons_succ, List.setIfInBounds_toArray, List.set_cons_zero, List.set_cons_succ]
      refine wpAnyH_take (i := 26) (v := undef) rfl (by kernel_rfl) (by kernel_rfl) (by kernel_rfl) (fun _ _ _ h => h) (Or.inr ⟨by rfl, rfl⟩) ⟨(rowAt Zb), (rowMid Zl (2) (Ld.ballot L))⟩ ?_
      try simp only [Act.put, List.getElem_toArray, List.getElem_cons_zero, List.getElem_cons_succ, List.setIfInBounds_toArray, List.set_cons_zero, List.set_cons_succ]
      refine wpAnyH_take (i := 27) (v := undef) rfl (by kernel_rfl) (by kernel_rfl) (by kernel_rfl) (fun _ _ _ h => h) (Or.inr ⟨by rfl, rfl⟩) ⟨(rowAt Zb), (rowMid Zl (2) (Ld.ballot L))⟩ ?_
      try simp only [Act.put, List.getElem_toArray, List.getElem_cons_zero, List.getElem_cons_succ, List.setIfInBounds_toArray, List.set_cons_zero, List.set_cons_succ]
      refine wpAnyH_take (i := 28) (v := undef) rfl (by kernel_rfl) (by kernel_rfl) (by kernel_rfl) (fun _ _ _ h => h) (Or.inr ⟨by rfl, rfl⟩) ⟨(rowAt Zb), (rowMid Zl (2) (Ld.ballot L))⟩ ?_
      try simp only [Act.put, List.getElem_toArray, List.getElem_cons_zero, List.getElem_cons_succ, List.setIfInBounds_toArray, List.set_cons_zero, List.set_cons_succ]
      refine wpAnyH_take (i := 29) (v := undef) rfl (by kernel_rfl) (by kernel_rfl) (by kernel_rfl) (fun _ _ _ h => h) (Or.inr ⟨by rfl, rfl⟩) ⟨(rowAt Zb), (rowMid Zl (2) (Ld.ballot L))⟩ ?_
      try simp only [Act.put, List.getElem_toArray, List.getElem_cons_zero, List.getElem_cons_succ, List.setIfInBounds_toArray, List.set_cons_zero, List.set_cons_succ]
      refine wpAnyH_take (i := 30) (v := undef) rfl (by kernel_rfl) (by kernel_rfl) (by kernel_rfl) (fun _ _ _ h => h) (Or.inr ⟨by rfl, rfl⟩) ⟨(rowAt Zb), (rowMid Zl (2) (Ld.ballot L))⟩ ?_
      try simp only [Act.put, List.getElem_toArray, List.getElem_cons_zero, List.getElem_cons_succ, List.setIfInBounds_toArray, List.set_cons_zero, List.set_cons_succ]
      refine wpAnyH_take (i := 31) (v := .bool true) rfl (by kernel_rfl) (by kernel_rfl) (by kernel_rfl) (fun _ _ _ h => h) (Or.inl ⟨by rfl, fun w_ hS_ => by (first | (go_simp; done) | (go_simp; rfl))⟩) ⟨(rowAt Zb), (rowMid Zl (2) (Ld.ballot L))⟩ ?_
      try simp only [Act.put, List.getElem_toArray, List.getElem_cons_zero, List.getElem_cons_succ, List.setIfInBounds_toArray, List.set_cons_zero, List.set_cons_succ]
      refine wpAnyH_take (i := 32) (v := .bool true) rfl (by kernel_rfl) (by kernel_rfl) (by kernel_rfl) (fun _ _ _ h => h) (Or.inl ⟨by rfl, fun w_ hS_ => by (first | (go_simp; done) | (go_simp; rfl))⟩) ⟨(rowAt Zb), (rowMid Zl (2) (Ld.ballot L))⟩ ?_
      try simp only [Act.put, List.getElem_toArray, List.getElem_cons_zero, List.getElem_cons_succ, List.setIfInBounds_toArray, List.set_cons_zero, List.set_cons_succ]
      refine wpAnyH_take (i := 33) (v := undef) rfl (by kernel_rfl) (by kernel_rfl) (by kernel_rfl) (fun _ _ _ h => h) (Or.inr ⟨by rfl, rfl⟩) ⟨(rowAt Zb), (rowMid Zl (2) (Ld.ballot L))⟩ ?_
      try simp only [Act.put, List.getElem_toArray, List.getElem_cons_zero, List.getElem_cons_succ, List.setIfInBounds_toArray, List.set_cons_zero, List.set_cons_succ]
      refine wpAnyH_take (i := 34) (v := undef) rfl (by kernel_rfl) (by kernel_rfl) (by kernel_rfl) (fun _ _ _ h => h) (Or.inr ⟨by rfl, rfl⟩) ⟨(rowAt Zb), (rowMid Zl (2) (Ld.ballot L))⟩ ?_
      try simp only [Act.put, List.getElem_toArray, List.getElem_cons_zero, List.getElem_cons_succ, List.setIfInBounds_toArray, List.set_cons_zero, List.set_cons_succ]
      refine wpAnyH_take (i := 35) (v := undef) rfl (by kernel_rfl) (by kernel_rfl) (by kernel_rfl) (fun _ _ _ h => h) (Or.inr ⟨by rfl, rfl⟩) ⟨(rowAt Zb), (rowMid Zl (2) (Ld.ballot L))⟩ ?_
      try simp only [Act.put, List.getElem_toArray, List.getElem_cons_zero, List.getElem_cons_succ, List.setIfInBounds_toArray, List.set_cons_zero, List.set_cons_succ]
      refine wpAnyH_take (i := 36) (v := undef) rfl (by kernel_rfl) (by kernel_rfl) (by kernel_rfl) (fun _ _ _ h => h) (Or.inr ⟨by rfl, rfl⟩) ⟨(rowAt Zb), (rowMid Zl (2) (Ld.ballot L))⟩ ?_
      try simp only [Act.put, List.getElem_toArray, List.getElem_cons_zero, List.getElem_cons_succ, List.setIfInBounds_toArray, List.set_cons_zero, List.set_cons_succ]
      refine wpAnyH_take (i := 37) (v := undef) rfl (by kernel_rfl) (by kernel_rfl) (by kernel_rfl) (fun _ _ _ h => h) (Or.inr ⟨by rfl, rfl⟩) ⟨(rowAt Zb), (rowMid Zl (2) (Ld.ballot L))⟩ ?_
      try simp only [Act.put, List.getElem_toArray, List.getElem_cons_zero, List.getElem_cons_succ, List.setIfInBounds_toArray, List.set_cons_zero, List.set_cons_succ]
      refine wpAnyH_take (i := 38) (v := undef) rfl (by kernel_rfl) (by kernel_rfl) (by kernel_rfl) (fun _ _ _ h => h) (Or.inr ⟨by rfl, rfl⟩) ⟨(rowAt Zb), (rowMid Zl (2) (Ld.ballot L))⟩ ?_
      try simp only [Act.put, List.getElem_toArray, List.getElem_cons_zero, List.getElem_cons_succ, List.setIfInBounds_toArray, List.set_cons_zero, List.set_cons_succ]
      refine wpAnyH_take (i := 39) (v := .bool true) rfl (by kernel_rfl) (by kernel_rfl) (by kernel_rfl) (fun _ _ _ h => h) (Or.inl ⟨by rfl, fun w_ hS_ => by (first | (go_simp; done) | (go_simp; rfl))⟩) ⟨(rowAt Zb), (rowMid Zl (2) (Ld.ballot L))⟩ ?_
      try simp only [Act.put, List.getElem_toArray, List.getElem_cons_zero, List.getElem_cons_succ, List.setIfInBounds_toArray, List.set_cons_zero, List.set_cons_succ]
      refine wpAnyH_done (by kernel_rfl) ?_ _
      clear HHA HFO hI hJ h4 h5 HE1
      go_wp2_with fail
      go_ret
      exact ⟨rfl, ee⟩
    | false =>
      cases d3 with
      | false =>
        have Zl : w0.drew.heap[h]? = some (.cells L.cells.toArray 144) := Zl
        have Zb : w0.drew.heap[w.heap.size]? = some (.cells [.int .u32 (br : Int), .int .i64 bn].toArray 28) := Zb
        have Za : w0.drew.heap[w.heap.size + 1]? = some (.cells a.cells.toArray 39) := Za
        have ee := belowDrewS ee
        refine wp_region_held_drew (S := fun z' => z'.rangeAt w.heap.size (0) ([.int .u32 (br : Int), .int .i64 bn]) ∧ z'.rangeAt h (2) ([.int .u32 (L.br : Int), .int .i64 L.bn]) ∧ z'.rangeAt (w.heap.size + 1) (0) a.cells) (by kernel_rfl) ⟨(rowAt Zb), (rowMid Zl (2) (Ld.ballot L)), (rowAt Za)⟩ (fun hH => ?_)
        clear hH
        generalize w0.drew = z1 at Zl Zb Za ee ⊢
        refine wpAnyH_take (i := 0) (v := .pointer (some ⟨h, 0, none⟩)) rfl (by kernel_rfl) (by kernel_rfl) (by kernel_rfl) (fun _ _ _ h => h) (Or.inl ⟨by rfl, fun w_ hS_ => by (first | (go_simp; done) | (go_simp; rfl))⟩) ⟨(rowAt Zb), (rowMid Zl (2) (Ld.ballot L)), (rowAt Za)⟩ ?_
        try simp only [Act.put, List.getElem_toArray, List.getElem_cons_zero, List.getElem_cons_succ, List.setIfInBounds_toArray, List.set_cons_zero, List.set_cons_succ]
        refine wpAnyH_take (i := 1) (v := .bool false) rfl (by kernel_rfl) (by kernel_rfl) (by kernel_rfl) (fun _ _ _ h => h) (Or.inl ⟨by rfl, fun w_ hS_ => by (first | (go_simp; done) | (go_simp; rfl))⟩) ⟨(rowAt Zb), (rowMid Zl (2) (Ld.ballot L)), (rowAt Za)⟩ ?_
        try simp only [Act.put, List.getElem_toArray, List.getElem_cons_zero, List.getElem_cons_succ, List.setIfInBounds_toArray, List.set_cons_zero, List.set_cons_succ]
        refine wpAnyH_take (i := 2) (v := .bool false) rfl (by kernel_rfl) (by kernel_rfl) (by kernel_rfl) (fun _ _ _ h => h) (Or.inl ⟨by rfl, fun w_ hS_ => by (first | (go_simp; done) | (go_simp; rfl))⟩) ⟨(rowAt Zb), (rowMid Zl (2) (Ld.ballot L)), (rowAt Za)⟩ ?_
        try simp only [Act.put, List.getElem_toArray, List.getElem_cons_zero, List.getElem_cons_succ, List.setIfInBounds_toArray, List.set_cons_zero, List.set_cons_succ]
        refine wpAnyH_take (i := 3) (v := .agg ([.int .u32 (br : Int), .int .i64 bn]).toArray) rfl (by kernel_rfl) (by kernel_rfl) (by kernel_rfl) (fun _ _ _ h => h) (yieldsIf_load_mid (by rfl) 28 _ rfl (w.heap.size) (0) rfl ([.int .u32 (br : Int), .int .i64 bn]) _ (fun _ h => h.1) Tryd.underlying28 rfl sizeBal) ⟨(rowAt Zb), (rowMid Zl (2) (Ld.ballot L)), (rowAt Za)⟩ ?_
        try simp only [Act.put, List.getElem_toArray, List.getElem_cons_zero, List.getElem_cons_succ, List.setIfInBounds_toArray, List.set_cons_zero, List.set_cons_succ]
        refine wpAnyH_take (i := 4) (v := .pointer (some ⟨h, 0, none⟩)) rfl (by kernel_rfl) (by kernel_rfl) (by kernel_rfl) (fun _ _ _ h => h) (Or.inl ⟨by rfl, fun w_ hS_ => by (first | (go_simp; done) | (go_simp; rfl))⟩) ⟨(rowAt Zb), (rowMid Zl (2) (Ld.ballot L)), (rowAt Za)⟩ ?_
        try simp only [Act.put, List.getElem_toArray, List.getElem_cons_zero, List.getElem_cons_succ, List.setIfInBounds_toArray, List.set_cons_zero, List.set_cons_succ]
        refine wpAnyH_take (i := 5) (v := .pointer (some ⟨h, 0, none⟩)) rfl (by kernel_rfl) (by kernel_rfl) (by kernel_rfl) (fun _ _ _ h => h) (Or.inl ⟨by rfl, fun w_ hS_ => by (first | (go_simp; done) | (go_simp; rfl))⟩) ⟨(rowAt Zb), (rowMid Zl (2) (Ld.ballot L)), (rowAt Za)⟩ ?_
        try simp only [Act.put, List.getElem_toArray, List.getElem_cons_zero, List.getElem_cons_succ, List.setIfInBounds_toArray, List.set_cons_zero, List.set_cons_succ]
        refine wpAnyH_take (i := 6) (v := .pointer (some ⟨h, 2, none⟩)) rfl (by kernel_rfl) (by kernel_rfl) (by kernel_rfl) (fun _ _ _ h => h) (Or.inl ⟨by rfl, fun w_ hS_ => by (first | (go_simp; done) | (go_simp; rfl))⟩) ⟨(rowAt Zb), (rowMid Zl (2) (Ld.ballot L)), (rowAt Za)⟩ ?_
        try simp only [Act.put, List.getElem_toArray, List.getElem_cons_zero, List.getElem_cons_succ, List.setIfInBounds_toArray, List.set_cons_zero, List.set_cons_succ]
        refine wpAnyH_take (i := 7) (v := .agg ([.int .u32 (L.br : Int), .int .i64 L.bn]).toArray) rfl (by kernel_rfl) (by kernel_rfl) (by kernel_rfl) (fun _ _ _ h => h) (yieldsIf_load_mid (by rfl) 28 _ rfl (h) (2) rfl ([.int .u32 (L.br : Int), .int .i64 L.bn]) _ (fun _ h => h.2.1) Tryd.underlying28 rfl sizeBal) ⟨(rowAt Zb), (rowMid Zl (2) (Ld.ballot L)), (rowAt Za)⟩ ?_
        try simp only [Act.put, List.getElem_toArray, List.getElem_cons_zero, List.getElem_cons_succ, List.setIfInBounds_toArray, List.set_cons_zero, List.set_cons_succ]
        refine wpAnyH_take (i := 8) (v := .bool false) rfl (by kernel_rfl) (by kernel_rfl) (by kernel_rfl) (fun _ _ _ h => h) (Or.inl ⟨by rfl, fun w_ hS_ => by (first | (go_simp; done) | (go_simp; rfl))⟩) ⟨(rowAt Zb), (rowMid Zl (2) (Ld.ballot L)), (rowAt Za)⟩ ?_
        try simp only [Act.put, List.getElem_toArray, List.getElem_cons_zero, List.getElem_cons_succ, List.setIfInBounds_toArray, List.set_cons_zero, List.set_cons_succ]
        refine wpAnyH_take (i := 9) (v := .bool false) rfl (by kernel_rfl) (by kernel_rfl) (by kernel_rfl) (fun _ _ _ h => h) (Or.inl ⟨by rfl, fun w_ hS_ => by (first | (go_simp; done) | (go_simp; rfl))⟩) ⟨(rowAt Zb), (rowMid Zl (2) (Ld.ballot L)), (rowAt Za)⟩ ?_
        try simp only [Act.put, List.getElem_toArray, List.getElem_cons_zero, List.getElem_cons_succ, List.setIfInBounds_toArray, List.set_cons_zero, List.set_cons_succ]
        refine wpAnyH_take (i := 10) (v := .bool false) rfl (by kernel_rfl) (by kernel_rfl) (by kernel_rfl) (fun _ _ _ h => h) (Or.inl ⟨by rfl, fun w_ hS_ => by (first | (go_simp; done) | (go_simp; rfl))⟩) ⟨(rowAt Zb), (rowMid Zl (2) (Ld.ballot L)), (rowAt Za)⟩ ?_
        try simp only [Act.put, List.getElem_toArray, List.getElem_cons_zero, List.getElem_cons_succ, List.setIfInBounds_toArray, List.set_cons_zero, List.set_cons_succ]
        refine wpAnyH_take (i := 11) (v := .agg ([.int .u32 (br : Int), .int .i64 bn]).toArray) rfl (by kernel_rfl) (by kernel_rfl) (by kernel_rfl) (fun _ _ _ h => h) (yieldsIf_load_mid (by rfl) 28 _ rfl (w.heap.size) (0) rfl ([.int .u32 (br : Int), .int .i64 bn]) _ (fun _ h => h.1) Tryd.underlying28 rfl sizeBal) ⟨(rowAt Zb), (rowMid Zl (2) (Ld.ballot L)), (rowAt Za)⟩ ?_
        try simp only [Act.put, List.getElem_toArray, List.getElem_cons_zero, List.getElem_cons_succ, List.setIfInBounds_toArray, List.set_cons_zero, List.set_cons_succ]
        refine wpAnyH_take (i := 12) (v := .agg #[.int .u32 0, .int .i64 0]) rfl (by kernel_rfl) (by kernel_rfl) (by kernel_rfl) (fun _ _ _ h => h) (Or.inl ⟨by rfl, fun w_ hS_ => by (first | (go_simp; done) | (go_simp; rfl))⟩) ⟨(rowAt Zb), (rowMid Zl (2) (Ld.ballot L)), (rowAt Za)⟩ ?_
        try simp only [Act.put, List.getElem_toArray, List.getElem_cons_zero, List.getElem_cons_succ, List.setIfInBounds_toArray, List.set_cons_zero, List.set_cons_succ]
        refine wpAnyH_take (i := 13) (v := .bool false) rfl (by kernel_rfl) (by kernel_rfl) (by kernel_rfl) (fun _ _ _ h => h) (Or.inl ⟨by rfl, fun w_ hS_ => by (first | (go_simp; done) | (go_simp; rfl))⟩) ⟨(rowAt Zb), (rowMid Zl (2) (Ld.ballot L)), (rowAt Za)⟩ ?_
        try simp only [Act.put, List.getElem_toArray, List.getElem_cons_zero, List.getElem_cons_succ, List.setIfInBounds_toArray, List.set_cons_zero, List.set_cons_succ]
        refine wpAnyH_take (i := 14) (v := .bool false) rfl (by kernel_rfl) (by kernel_rfl) (by kernel_rfl) (fun _ _ _ h => h) (Or.inl ⟨by rfl, fun w_ hS_ => by (first | (go_simp; done) | (go_simp; rfl))⟩) ⟨(rowAt Zb), (rowMid Zl (2) (Ld.ballot L)), (rowAt Za)⟩ ?_
        try simp only [Act.put, List.getElem_toArray, List.getElem_cons_zero, List.getElem_cons_succ, List.setIfInBounds_toArray, List.set_cons_zero, List.set_cons_succ]
        refine wpAnyH_take (i := 15) (v := .bool false) rfl (by kernel_rfl) (by kernel_rfl) (by kernel_rfl) (fun _ _ _ h => h) (Or.inl ⟨by rfl, fun w_ hS_ => by (first | (go_simp; done) | (go_simp; rfl))⟩) ⟨(rowAt Zb), (rowMid Zl (2) (Ld.ballot L)), (rowAt Za)⟩ ?_
        try simp only [Act.put, List.getElem_toArray, List.getElem_cons_zero, List.getElem_cons_succ, List.setIfInBounds_toArray, List.set_cons_zero, List.set_cons_succ]
        refine wpAnyH_take (i := 16) (v := .agg (a.cells).toArray) rfl (by kernel_rfl) (by kernel_rfl) (by kernel_rfl) (fun _ _ _ h => h) (yieldsIf_load_mid (by rfl) 39 _ rfl (w.heap.size + 1) (0) rfl (a.cells) _ (fun _ h => h.2.2) Tryd.underlying39 rfl sizeAc) ⟨(rowAt Zb), (rowMid Zl (2) (Ld.ballot L)), (rowAt Za)⟩ ?_
        try simp only [Act.put, List.getElem_toArray, List.getElem_cons_zero, List.getElem_cons_succ, List.setIfInBounds_toArray, List.set_cons_zero, List.set_cons_succ]
        refine wpAnyH_ready (rs := [17]) (by kernel_rfl) (by simp) ?_
        refine AllReadyH.cons rfl (fun K hK => ?_) AllReadyH.nil
        rw [if_pos (by rfl)]
        go_simp
        go_wp2_with (go_at_call 20; refine (HFO.out z1 ee).mono ?_; rintro e z2 ⟨rfl, t⟩)
        have Zl := hpB Zl t
        have Zb := hpB Zb t
        have Za := hpB Za t
        have ee := ee.trans (t.mono ee.size)
        clear t
        refine hK.out _ _ ⟨(rowAt Zb), (rowMid Zl (2) (Ld.ballot L)), (rowAt Za)⟩ (fun hH => ?_)
        clear hK K hH
        try simp only [Act.put, List.getElem_toArray, List.getElem_cons_zero, List.getElem_cons_succ, List.setIfInBounds_toArray, List.set_cons_zero, List.set_cons_succ]
        refine wpAnyH_take (i := 18) (v := .bool true) rfl (by kernel_rfl) (by kernel_rfl) (by kernel_rfl) (fun _ _ _ h => h) (Or.inl ⟨by rfl, fun w_ hS_ => by (first | (go_simp; done) | (go_simp; rfl))⟩) ⟨(rowAt Zb), (rowMid Zl (2) (Ld.ballot L)), (rowAt Za)⟩ ?_
        try simp only [Act.put, List.getElem_toArray, List.getElem_cons_zero, List.getElem_cons_succ, List.setIfInBounds_toArray, List.set_cons_zero, List.set_cons_succ]
        refine wpAnyH_take (i := 19) (v := .bool true) rfl (by kernel_rfl) (by kernel_rfl) (by kernel_rfl) (fun _ _ _ h => h) (Or.inl ⟨by rfl, fun w_ hS_ => by (first | (go_simp; done) | (go_simp; rfl))⟩) ⟨(rowAt Zb), (rowMid Zl (2) (Ld.ballot L)), (rowAt Za)⟩ ?_
        try simp only [Act.put, List.getElem_toArray, List.getElem_cons_zero, List.getElem_cons_succ, List.setIfInBounds_toArray, List.set_cons_zero, List.set_cons_succ]
        refine wpAnyH_take (i := 20) (v := .bool true) rfl (by kernel_rfl) (by kernel_rfl) (by kernel_rfl) (fun _ _ _ h => h) (Or.inl ⟨by rfl, fun w_ hS_ => by (first | (go_simp; done) | (go_simp; rfl))⟩) ⟨(rowAt Zb), (rowMid Zl (2) (Ld.ballot L)), (rowAt Za)⟩ ?_
        try simp only [Act.put, List.getElem_toArray, List.getElem_cons_zero, List.getElem_cons_succ, List.setIfInBounds_toArray, List.set_cons_zero, List.set_cons_succ]
        refine wpAnyH_take (i := 21) (v := undef) rfl (by kernel_rfl) (by kernel_rfl) (by kernel_rfl) (fun _ _ _ h => h) (Or.inr ⟨by rfl, rfl⟩) ⟨(rowAt Zb), (rowMid Zl (2) (Ld.ballot L)), (rowAt Za)⟩ ?_
        try simp only [Act.put, List.getElem_toArray, List.getElem_cons_zero, List.getElem_cons_succ, List.setIfInBounds_toArray, List.set_cons_zero, List.set_cons_succ]
        refine wpAnyH_take (i := 22) (v := undef) rfl (by kernel_rfl) (by kernel_rfl) (by kernel_rfl) (fun _ _ _ h => h) (Or.inr ⟨by rfl, rfl⟩) ⟨(rowAt Zb), (rowMid Zl (2) (Ld.ballot L)), (rowAt Za)⟩ ?_
        try simp only [Act.put, List.getElem_toArray, List.getElem_cons_zero, List.getElem_cons_succ, List.setIfInBounds_toArray, List.set_cons_zero, List.set_cons_succ]
        refine wpAnyH_take (i := 23) (v := .bool true) rfl (by kernel_rfl) (by kernel_rfl) (by kernel_rfl) (fun _ _ _ h => h) (Or.inl ⟨by rfl, fun w_ hS_ => by (first | (go_simp; done) | (go_simp; rfl))⟩) ⟨(rowAt Zb), (rowMid Zl (2) (Ld.ballot L)), (rowAt Za)⟩ ?_
        try simp only [Act.put, List.getElem_toArray, List.getElem_cons_zero, List.getElem_cons_succ, List.setIfInBounds_toArray, List.set_cons_zero, List.set_cons_succ]
        refine wpAnyH_take (i := 24) (v := .bool true) rfl (by kernel_rfl) (by kernel_rfl) (by kernel_rfl) (fun _ _ _ h => h) (Or.inl ⟨by rfl, fun w_ hS_ => by (first | (go_simp; done) | (go_simp; rfl))⟩) ⟨(rowAt Zb), (rowMid Zl (2) (Ld.ballot L)), (rowAt Za)⟩ ?_
        try simp only [Act.put, List.getElem_toArray, List.getElem_cons_zero, List.getElem_cons_succ, List.setIfInBounds_toArray, List.set_cons_zero, List.set_cons_succ]
        refine wpAnyH_take (i := 25) (v := undef) rfl (by kernel_rfl) (by kernel_rfl) (by kernel_rfl) (fun _ _ _ h => h) (Or.inr ⟨by rfl, rfl⟩) ⟨(rowAt Zb), (rowMid Zl (2) (Ld.ballot L)), (rowAt Za)⟩ ?_
        try simp only [Act.put, List.getElem_toArray, List.getElem_cons_zero, List.getElem_cons_succ, List.setIfInBounds_toArray, List.set_cons_zero, List.set_cons_succ]
        refine wpAnyH_take (i := 26) (v := undef) rfl (by kernel_rfl) (by kernel_rfl) (by kernel_rfl) (fun _ _ _ h => h) (Or.inr ⟨by rfl, rfl⟩) ⟨(rowAt Zb), (rowMid Zl (2) (Ld.ballot L)), (rowAt Za)⟩ ?_
        try simp only [Act.put, List.getElem_toArray, List.getElem_cons_zero, List.getElem_cons_succ, List.setIfInBounds_toArray, List.set_cons_zero, List.set_cons_succ]
        refine wpAnyH_take (i := 27) (v := undef) rfl (by kernel_rfl) (by kernel_rfl) (by kernel_rfl) (fun _ _ _ h => h) (Or.inr ⟨by rfl, rfl⟩) ⟨(rowAt Zb), (rowMid Zl (2) (Ld.ballot L)), (rowAt Za)⟩ ?_
        try simp only [Act.put, List.getElem_toArray, List.getElem_cons_zero, List.getElem_cons_succ, List.setIfInBounds_toArray, List.set_cons_zero, List.set_cons_succ]
        refine wpAnyH_take (i := 28) (v := undef) rfl (by kernel_rfl) (by kernel_rfl) (by kernel_rfl) (fun _ _ _ h => h) (Or.inr ⟨by rfl, rfl⟩) ⟨(rowAt Zb), (rowMid Zl (2) (Ld.ballot L)), (rowAt Za)⟩ ?_
        try simp only [Act.put, List.getElem_toArray, List.getElem_cons_zero, List.getElem_cons_succ, List.setIfInBounds_toArray, List.set_cons_zero, List.set_cons_succ]
        refine wpAnyH_take (i := 29) (v := undef) rfl (by kernel_rfl) (by kernel_rfl) (by kernel_rfl) (fun _ _ _ h => h) (Or.inr ⟨by rfl, rfl⟩) ⟨(rowAt Zb), (rowMid Zl (2) (Ld.ballot L)), (rowAt Za)⟩ ?_
        try simp only [Act.put, List.getElem_toArray, List.getElem_cons_zero, List.getElem_cons_succ, List.setIfInBounds_toArray, List.set_cons_zero, List.set_cons_succ]
        refine wpAnyH_take (i := 30) (v := undef) rfl (by kernel_rfl) (by kernel_rfl) (by kernel_rfl) (fun _ _ _ h => h) (Or.inr ⟨by rfl, rfl⟩) ⟨(rowAt Zb), (rowMid Zl (2) (Ld.ballot L)), (rowAt Za)⟩ ?_
        try simp only [Act.put, List.getElem_toArray, List.getElem_cons_zero, List.getElem_cons_succ, List.setIfInBounds_toArray, List.set_cons_zero, List.set_cons_succ]
        refine wpAnyH_take (i := 31) (v := .bool true) rfl (by kernel_rfl) (by kernel_rfl) (by kernel_rfl) (fun _ _ _ h => h) (Or.inl ⟨by rfl, fun w_ hS_ => by (first | (go_simp; done) | (go_simp; rfl))⟩) ⟨(rowAt Zb), (rowMid Zl (2) (Ld.ballot L)), (rowAt Za)⟩ ?_
        try simp only [Act.put, List.getElem_toArray, List.getElem_cons_zero, List.getElem_cons_succ, List.setIfInBounds_toArray, List.set_cons_zero, List.set_cons_succ]
        refine wpAnyH_take (i := 32) (v := .bool true) rfl (by kernel_rfl) (by kernel_rfl) (by kernel_rfl) (fun _ _ _ h => h) (Or.inl ⟨by rfl, fun w_ hS_ => by (first | (go_simp; done) | (go_simp; rfl))⟩) ⟨(rowAt Zb), (rowMid Zl (2) (Ld.ballot L)), (rowAt Za)⟩ ?_
        try simp only [Act.put, List.getElem_toArray, List.getElem_cons_zero, List.getElem_cons_succ, List.setIfInBounds_toArray, List.set_cons_zero, List.set_cons_succ]
        refine wpAnyH_take (i := 33) (v := undef) rfl (by kernel_rfl) (by kernel_rfl) (by kernel_rfl) (fun _ _ _ h => h) (Or.inr ⟨by rfl, rfl⟩) ⟨(rowAt Zb), (rowMid Zl (2) (Ld.ballot L)), (rowAt Za)⟩ ?_
        try simp only [Act.put, List.getElem_toArray, List.getElem_cons_zero, List.getElem_cons_succ, List.setIfInBounds_toArray, List.set_cons_zero, List.set_cons_succ]
        refine wpAnyH_take (i := 34) (v := undef) rfl (by kernel_rfl) (by kernel_rfl) (by kernel_rfl) (fun _ _ _ h => h) (Or.inr ⟨by rfl, rfl⟩) ⟨(rowAt Zb), (rowMid Zl (2) (Ld.ballot L)), (rowAt Za)⟩ ?_
        try simp only [Act.put, List.getElem_toArray, List.getElem_cons_zero, List.getElem_cons_succ, List.setIfInBounds_toArray, List.set_cons_zero, List.set_cons_succ]
        refine wpAnyH_take (i := 35) (v := undef) rfl (by kernel_rfl) (by kernel_rfl) (by kernel_rfl) (fun _ _ _ h => h) (Or.inr ⟨by rfl, rfl⟩) ⟨(rowAt Zb), (rowMid Zl (2) (Ld.ballot L)), (rowAt Za)⟩ ?_
        try simp only [Act.put, List.getElem_toArray, List.getElem_cons_zero, List.getElem_cons_succ, List.setIfInBounds_toArray, List.set_cons_zero, List.set_cons_succ]
        refine wpAnyH_take (i := 36) (v := undef) rfl (by kernel_rfl) (by kernel_rfl) (by kernel_rfl) (fun _ _ _ h => h) (Or.inr ⟨by rfl, rfl⟩) ⟨(rowAt Zb), (rowMid Zl (2) (Ld.ballot L)), (rowAt Za)⟩ ?_
        try simp only [Act.put, List.getElem_toArray, List.getElem_cons_zero, List.getElem_cons_succ, List.setIfInBounds_toArray, List.set_cons_zero, List.set_cons_succ]
        refine wpAnyH_take (i := 37) (v := undef) rfl (by kernel_rfl) (by kernel_rfl) (by kernel_rfl) (fun _ _ _ h => h) (Or.inr ⟨by rfl, rfl⟩) ⟨(rowAt Zb), (rowMid Zl (2) (Ld.ballot L)), (rowAt Za)⟩ ?_
        try simp only [Act.put, List.getElem_toArray, List.getElem_cons_zero, List.getElem_cons_succ, List.setIfInBounds_toArray, List.set_cons_zero, List.set_cons_succ]
        refine wpAnyH_take (i := 38) (v := undef) rfl (by kernel_rfl) (by kernel_rfl) (by kernel_rfl) (fun _ _ _ h => h) (Or.inr ⟨by rfl, rfl⟩) ⟨(rowAt Zb), (rowMid Zl (2) (Ld.ballot L)), (rowAt Za)⟩ ?_
        try simp only [Act.put, List.getElem_toArray, List.getElem_cons_zero, List.getElem_cons_succ, List.setIfInBounds_toArray, List.set_cons_zero, List.set_cons_succ]
        refine wpAnyH_take (i := 39) (v := .bool true) rfl (by kernel_rfl) (by kernel_rfl) (by kernel_rfl) (fun _ _ _ h => h) (Or.inl ⟨by rfl, fun w_ hS_ => by (first | (go_simp; done) | (go_simp; rfl))⟩) ⟨(rowAt Zb), (rowMid Zl (2) (Ld.ballot L)), (rowAt Za)⟩ ?_
        try simp only [Act.put, List.getElem_toArray, List.getElem_cons_zero, List.getElem_cons_succ, List.setIfInBounds_toArray, List.set_cons_zero, List.set_cons_succ]
        refine wpAnyH_done (by kernel_rfl) ?_ _
        clear HHA HFO hI hJ h4 h5 HE1
        go_wp2_with fail
        go_ret
        exact ⟨rfl, ee⟩
      | true =>
        cases d4 with
        | true =>
          have Zl : w0.drew.heap[h]? = some (.cells L.cells.toArray 144) := Zl
          have Zb : w0.drew.heap[w.heap.size]? = some (.cells [.int .u32 (br : Int), .int .i64 bn].toArray 28) := Zb
          have Za : w0.drew.heap[w.heap.size + 1]? = some (.cells a.cells.toArray 39) := Za
          have ee := belowDrewS ee
          refine wp_region_held_drew (S := fun z' => z'.rangeAt w.heap.size (0) ([.int .u32 (br : Int), .int .i64 bn]) ∧ z'.rangeAt h (2) ([.int .u32 (L.br : Int), .int .i64 L.bn]) ∧ z'.rangeAt (w.heap.size + 1) (0) a.cells) (by kernel_rfl) ⟨(rowAt Zb), (rowMid Zl (2) (Ld.ballot L)), (rowAt Za)⟩ (fun hH => ?_)
          clear hH
          generalize w0.drew = z1 at Zl Zb Za ee ⊢
          refine wpAnyH_take (i := 0) (v := .pointer (some ⟨h, 0, none⟩)) rfl (by kernel_rfl) (by kernel_rfl) (by kernel_rfl) (fun _ _ _ h => h) (Or.inl ⟨by rfl, fun w_ hS_ => by (first | (go_simp; done) | (go_simp; rfl))⟩) ⟨(rowAt Zb), (rowMid Zl (2) (Ld.ballot L)), (rowAt Za)⟩ ?_
          try simp only [Act.put, List.getElem_toArray, List.getElem_cons_zero, List.getElem_cons_succ, List.setIfInBounds_toArray, List.set_cons_zero, List.set_cons_succ]
          refine wpAnyH_take (i := 1) (v := .bool false) rfl (by kernel_rfl) (by kernel_rfl) (by kernel_rfl) (fun _ _ _ h => h) (Or.inl ⟨by rfl, fun w_ hS_ => by (first | (go_simp; done) | (go_simp; rfl))⟩) ⟨(rowAt Zb), (rowMid Zl (2) (Ld.ballot L)), (rowAt Za)⟩ ?_
          try simp only [Act.put, List.getElem_toArray, List.getElem_cons_zero, List.getElem_cons_succ, List.setIfInBounds_toArray, List.set_cons_zero, List.set_cons_succ]
          refine wpAnyH_take (i := 2) (v := .bool false) rfl (by kernel_rfl) (by kernel_rfl) (by kernel_rfl) (fun _ _ _ h => h) (Or.inl ⟨by rfl, fun w_ hS_ => by (first | (go_simp; done) | (go_simp; rfl))⟩) ⟨(rowAt Zb), (rowMid Zl (2) (Ld.ballot L)), (rowAt Za)⟩ ?_
          try simp only [Act.put, List.getElem_toArray, List.getElem_cons_zero, List.getElem_cons_succ, List.setIfInBounds_toArray, List.set_cons_zero, List.set_cons_succ]
          refine wpAnyH_take (i := 3) (v := .agg ([.int .u32 (br : Int), .int .i64 bn]).toArray) rfl (by kernel_rfl) (by kernel_rfl) (by kernel_rfl) (fun _ _ _ h => h) (yieldsIf_load_mid (by rfl) 28 _ rfl (w.heap.size) (0) rfl ([.int .u32 (br : Int), .int .i64 bn]) _ (fun _ h => h.1) Tryd.underlying28 rfl sizeBal) ⟨(rowAt Zb), (rowMid Zl (2) (Ld.ballot L)), (rowAt Za)⟩ ?_
          try simp only [Act.put, List.getElem_toArray, List.getElem_cons_zero, List.getElem_cons_succ, List.setIfInBounds_toArray, List.set_cons_zero, List.set_cons_succ]
          refine wpAnyH_take (i := 4) (v := .pointer (some ⟨h, 0, none⟩)) rfl (by kernel_rfl) (by kernel_rfl) (by kernel_rfl) (fun _ _ _ h => h) (Or.inl ⟨by rfl, fun w_ hS_ => by (first | (go_simp; done) | (go_simp; rfl))⟩) ⟨(rowAt Zb), (rowMid Zl (2) (Ld.ballot L)), (rowAt Za)⟩ ?_
          try simp only [Act.put, List.getElem_toArray, List.getElem_cons_zero, List.getElem_cons_succ, List.setIfInBounds_toArray, List.set_cons_zero, List.set_cons_succ]
          refine wpAnyH_take (i := 5) (v := .pointer (some ⟨h, 0, none⟩)) rfl (by kernel_rfl) (by kernel_rfl) (by kernel_rfl) (fun _ _ _ h => h) (Or.inl ⟨by rfl, fun w_ hS_ => by (first | (go_simp; done) | (go_simp; rfl))⟩) ⟨(rowAt Zb), (rowMid Zl (2) (Ld.ballot L)), (rowAt Za)⟩ ?_
          try simp only [Act.put, List.getElem_toArray, List.getElem_cons_zero, List.getElem_cons_succ, List.setIfInBounds_toArray, List.set_cons_zero, List.set_cons_succ]
          refine wpAnyH_take (i := 6) (v := .pointer (some ⟨h, 2, none⟩)) rfl (by kernel_rfl) (by kernel_rfl) (by kernel_rfl) (fun _ _ _ h => h) (Or.inl ⟨by rfl, fun w_ hS_ => by (first | (go_simp; done) | (go_simp; rfl))⟩) ⟨(rowAt Zb), (rowMid Zl (2) (Ld.ballot L)), (rowAt Za)⟩ ?_
          try simp only [Act.put, List.getElem_toArray, List.getElem_cons_zero, List.getElem_cons_succ, List.setIfInBounds_toArray, List.set_cons_zero, List.set_cons_succ]
          refine wpAnyH_take (i := 7) (v := .agg ([.int .u32 (L.br : Int), .int .i64 L.bn]).toArray) rfl (by kernel_rfl) (by kernel_rfl) (by kernel_rfl) (fun _ _ _ h => h) (yieldsIf_load_mid (by rfl) 28 _ rfl (h) (2) rfl ([.int .u32 (L.br : Int), .int .i64 L.bn]) _ (fun _ h => h.2.1) Tryd.underlying28 rfl sizeBal) ⟨(rowAt Zb), (rowMid Zl (2) (Ld.ballot L)), (rowAt Za)⟩ ?_
          try simp only [Act.put, List.getElem_toArray, List.getElem_cons_zero, List.getElem_cons_succ, List.setIfInBounds_toArray, List.set_cons_zero, List.set_cons_succ]
          refine wpAnyH_take (i := 8) (v := .bool false) rfl (by kernel_rfl) (by kernel_rfl) (by kernel_rfl) (fun _ _ _ h => h) (Or.inl ⟨by rfl, fun w_ hS_ => by (first | (go_simp; done) | (go_simp; rfl))⟩) ⟨(rowAt Zb), (rowMid Zl (2) (Ld.ballot L)), (rowAt Za)⟩ ?_
          try simp only [Act.put, List.getElem_toArray, List.getElem_cons_zero, List.getElem_cons_succ, List.setIfInBounds_toArray, List.set_cons_zero, List.set_cons_succ]
          refine wpAnyH_take (i := 9) (v := .bool false) rfl (by kernel_rfl) (by kernel_rfl) (by kernel_rfl) (fun _ _ _ h => h) (Or.inl ⟨by rfl, fun w_ hS_ => by (first | (go_simp; done) | (go_simp; rfl))⟩) ⟨(rowAt Zb), (rowMid Zl (2) (Ld.ballot L)), (rowAt Za)⟩ ?_
          try simp only [Act.put, List.getElem_toArray, List.getElem_cons_zero, List.getElem_cons_succ, List.setIfInBounds_toArray, List.set_cons_zero, List.set_cons_succ]
          refine wpAnyH_take (i := 10) (v := .bool false) rfl (by kernel_rfl) (by kernel_rfl) (by kernel_rfl) (fun _ _ _ h => h) (Or.inl ⟨by rfl, fun w_ hS_ => by (first | (go_simp; done) | (go_simp; rfl))⟩) ⟨(rowAt Zb), (rowMid Zl (2) (Ld.ballot L)), (rowAt Za)⟩ ?_
          try simp only [Act.put, List.getElem_toArray, List.getElem_cons_zero, List.getElem_cons_succ, List.setIfInBounds_toArray, List.set_cons_zero, List.set_cons_succ]
          refine wpAnyH_take (i := 11) (v := .agg ([.int .u32 (br : Int), .int .i64 bn]).toArray) rfl (by kernel_rfl) (by kernel_rfl) (by kernel_rfl) (fun _ _ _ h => h) (yieldsIf_load_mid (by rfl) 28 _ rfl (w.heap.size) (0) rfl ([.int .u32 (br : Int), .int .i64 bn]) _ (fun _ h => h.1) Tryd.underlying28 rfl sizeBal) ⟨(rowAt Zb), (rowMid Zl (2) (Ld.ballot L)), (rowAt Za)⟩ ?_
          try simp only [Act.put, List.getElem_toArray, List.getElem_cons_zero, List.getElem_cons_succ, List.setIfInBounds_toArray, List.set_cons_zero, List.set_cons_succ]
          refine wpAnyH_take (i := 12) (v := .agg #[.int .u32 0, .int .i64 0]) rfl (by kernel_rfl) (by kernel_rfl) (by kernel_rfl) (fun _ _ _ h => h) (Or.inl ⟨by rfl, fun w_ hS_ => by (first | (go_simp; done) | (go_simp; rfl))⟩) ⟨(rowAt Zb), (rowMid Zl (2) (Ld.ballot L)), (rowAt Za)⟩ ?_
          try simp only [Act.put, List.getElem_toArray, List.getElem_cons_zero, List.getElem_cons_succ, List.setIfInBounds_toArray, List.set_cons_zero, List.set_cons_succ]
          refine wpAnyH_take (i := 13) (v := .bool false) rfl (by kernel_rfl) (by kernel_rfl) (by kernel_rfl) (fun _ _ _ h => h) (Or.inl ⟨by rfl, fun w_ hS_ => by (first | (go_simp; done) | (go_simp; rfl))⟩) ⟨(rowAt Zb), (rowMid Zl (2) (Ld.ballot L)), (rowAt Za)⟩ ?_
          try simp only [Act.put, List.getElem_toArray, List.getElem_cons_zero, List.getElem_cons_succ, List.setIfInBounds_toArray, List.set_cons_zero, List.set_cons_succ]
          refine wpAnyH_take (i := 14) (v := .bool false) rfl (by kernel_rfl) (by kernel_rfl) (by kernel_rfl) (fun _ _ _ h => h) (Or.inl ⟨by rfl, fun w_ hS_ => by (first | (go_simp; done) | (go_simp; rfl))⟩) ⟨(rowAt Zb), (rowMid Zl (2) (Ld.ballot L)), (rowAt Za)⟩ ?_
          try simp only [Act.put, List.getElem_toArray, List.getElem_cons_zero, List.getElem_cons_succ, List.setIfInBounds_toArray, List.set_cons_zero, List.set_cons_succ]
          refine wpAnyH_take (i := 15) (v := .bool false) rfl (by kernel_rfl) (by kernel_rfl) (by kernel_rfl) (fun _ _ _ h => h) (Or.inl ⟨by rfl, fun w_ hS_ => by (first | (go_simp; done) | (go_simp; rfl))⟩) ⟨(rowAt Zb), (rowMid Zl (2) (Ld.ballot L)), (rowAt Za)⟩ ?_
          try simp only [Act.put, List.getElem_toArray, List.getElem_cons_zero, List.getElem_cons_succ, List.setIfInBounds_toArray, List.set_cons_zero, List.set_cons_succ]
          refine wpAnyH_take (i := 16) (v := .agg (a.cells).toArray) rfl (by kernel_rfl) (by kernel_rfl) (by kernel_rfl) (fun _ _ _ h => h) (yieldsIf_load_mid (by rfl) 39 _ rfl (w.heap.size + 1) (0) rfl (a.cells) _ (fun _ h => h.2.2) Tryd.underlying39 rfl sizeAc) ⟨(rowAt Zb), (rowMid Zl (2) (Ld.ballot L)), (rowAt Za)⟩ ?_
          try simp only [Act.put, List.getElem_toArray, List.getElem_cons_zero, List.getElem_cons_succ, List.setIfInBounds_toArray, List.set_cons_zero, List.set_cons_succ]
          refine wpAnyH_ready (rs := [17]) (by kernel_rfl) (by simp) ?_
          refine AllReadyH.cons rfl (fun K hK => ?_) AllReadyH.nil
          rw [if_pos (by rfl)]
          go_simp
          go_wp2_with (go_at_call 20; refine (HFO.out z1 ee).mono ?_; rintro e z2 ⟨rfl, t⟩)
          have Zl := hpB Zl t
          have Zb := hpB Zb t
          have Za := hpB Za t
          have ee := ee.trans (t.mono ee.size)
          clear t
          refine hK.out _ _ ⟨(rowAt Zb), (rowMid Zl (2) (Ld.ballot L)), (rowAt Za)⟩ (fun hH => ?_)
          clear hK K hH
          try simp only [Act.put, List.getElem_toArray, List.getElem_cons_zero, List.getElem_cons_succ, List.setIfInBounds_toArray, List.set_cons_zero, List.set_cons_succ]
          refine wpAnyH_take (i := 18) (v := .bool false) rfl (by kernel_rfl) (by kernel_rfl) (by kernel_rfl) (fun _ _ _ h => h) (Or.inl ⟨by rfl, fun w_ hS_ => by (first | (go_simp; done) | (go_simp; rfl))⟩) ⟨(rowAt Zb), (rowMid Zl (2) (Ld.ballot L)), (rowAt Za)⟩ ?_
          try simp only [Act.put, List.getElem_toArray, List.getElem_cons_zero, List.getElem_cons_succ, List.setIfInBounds_toArray, List.set_cons_zero, List.set_cons_succ]
          refine wpAnyH_take (i := 19) (v := .bool false) rfl (by kernel_rfl) (by kernel_rfl) (by kernel_rfl) (fun _ _ _ h => h) (Or.inl ⟨by rfl, fun w_ hS_ => by (first | (go_simp; done) | (go_simp; rfl))⟩) ⟨(rowAt Zb), (rowMid Zl (2) (Ld.ballot L)), (rowAt Za)⟩ ?_
          try simp only [Act.put, List.getElem_toArray, List.getElem_cons_zero, List.getElem_cons_succ, List.setIfInBounds_toArray, List.set_cons_zero, List.set_cons_succ]
          refine wpAnyH_take (i := 20) (v := .bool false) rfl (by kernel_rfl) (by kernel_rfl) (by kernel_rfl) (fun _ _ _ h => h) (Or.inl ⟨by rfl, fun w_ hS_ => by (first | (go_simp; done) | (go_simp; rfl))⟩) ⟨(rowAt Zb), (rowMid Zl (2) (Ld.ballot L)), (rowAt Za)⟩ ?_
          try simp only [Act.put, List.getElem_toArray, List.getElem_cons_zero, List.getElem_cons_succ, List.setIfInBounds_toArray, List.set_cons_zero, List.set_cons_succ]
          refine wpAnyH_take (i := 21) (v := .int .i64 k) rfl (by kernel_rfl) (by kernel_rfl) (by kernel_rfl) (fun _ _ _ h => h) (Or.inl ⟨by rfl, fun w_ hS_ => by (first | (go_simp; done) | (go_simp; rfl))⟩) ⟨(rowAt Zb), (rowMid Zl (2) (Ld.ballot L)), (rowAt Za)⟩ ?_
          try simp only [Act.put, List.getElem_toArray, List.getElem_cons_zero, List.getElem_cons_succ, List.setIfInBounds_toArray, List.set_cons_zero, List.set_cons_succ]
          refine wpAnyH_take (i := 22) (v := .bool true) rfl (by kernel_rfl) (by kernel_rfl) (by kernel_rfl) (fun _ _ _ h => h) (Or.inl ⟨by rfl, fun w_ hS_ => by (first | (go_simp; done) | (go_simp; rfl))⟩) ⟨(rowAt Zb), (rowMid Zl (2) (Ld.ballot L)), (rowAt Za)⟩ ?_
          try simp only [Act.put, List.getElem_toArray, List.getElem_cons_zero, List.getElem_cons_succ, List.setIfInBounds_toArray, List.set_cons_zero, List.set_cons_succ]
          refine wpAnyH_take (i := 23) (v := .bool true) rfl (by kernel_rfl) (by kernel_rfl) (by kernel_rfl) (fun _ _ _ h => h) (Or.inl ⟨by rfl, fun w_ hS_ => by (first | (go_simp; done) | (go_simp; rfl))⟩) ⟨(rowAt Zb), (rowMid Zl (2) (Ld.ballot L)), (rowAt Za)⟩ ?_
          try simp only [Act.put, List.getElem_toArray, List.getElem_cons_zero, List.getElem_cons_succ, List.setIfInBounds_toArray, List.set_cons_zero, List.set_cons_succ]
          refine wpAnyH_take (i := 24) (v := .bool true) rfl (by kernel_rfl) (by kernel_rfl) (by kernel_rfl) (fun _ _ _ h => h) (Or.inl ⟨by rfl, fun w_ hS_ => by (first | (go_simp; done) | (go_simp; rfl))⟩) ⟨(rowAt Zb), (rowMid Zl (2) (Ld.ballot L)), (rowAt Za)⟩ ?_
          try simp only [Act.put, List.getElem_toArray, List.getElem_cons_zero, List.getElem_cons_succ, List.setIfInBounds_toArray, List.set_cons_zero, List.set_cons_succ]
          refine wpAnyH_take (i := 25) (v := undef) rfl (by kernel_rfl) (by kernel_rfl) (by kernel_rfl) (fun _ _ _ h => h) (Or.inr ⟨by rfl, rfl⟩) ⟨(rowAt Zb), (rowMid Zl (2) (Ld.ballot L)), (rowAt Za)⟩ ?_
          try simp only [Act.put, List.getElem_toArray, List.getElem_cons_zero, List.getElem_cons_succ, List.setIfInBounds_toArray, List.set_cons_zero, List.set_cons_succ]
          refine wpAnyH_take (i := 26) (v := undef) rfl (by kernel_rfl) (by kernel_rfl) (by kernel_rfl) (fun _ _ _ h => h) (Or.inr ⟨by rfl, rfl⟩) ⟨(rowAt Zb), (rowMid Zl (2) (Ld.ballot L)), (rowAt Za)⟩ ?_
          try simp only [Act.put, List.getElem_toArray, List.getElem_cons_zero, List.getElem_cons_succ, List.setIfInBounds_toArray, List.set_cons_zero, List.set_cons_succ]
          refine wpAnyH_take (i := 27) (v := undef) rfl (by kernel_rfl) (by kernel_rfl) (by kernel_rfl) (fun _ _ _ h => h) (Or.inr ⟨by rfl, rfl⟩) ⟨(rowAt Zb), (rowMid Zl (2) (Ld.ballot L)), (rowAt Za)⟩ ?_
          try simp only [Act.put, List.getElem_toArray, List.getElem_cons_zero, List.getElem_cons_succ, List.setIfInBounds_toArray, List.set_cons_zero, List.set_cons_succ]
          refine wpAnyH_take (i := 28) (v := undef) rfl (by kernel_rfl) (by kernel_rfl) (by kernel_rfl) (fun _ _ _ h => h) (Or.inr ⟨by rfl, rfl⟩) ⟨(rowAt Zb), (rowMid Zl (2) (Ld.ballot L)), (rowAt Za)⟩ ?_
          try simp only [Act.put, List.getElem_toArray, List.getElem_cons_zero, List.getElem_cons_succ, List.setIfInBounds_toArray, List.set_cons_zero, List.set_cons_succ]
          refine wpAnyH_take (i := 29) (v := undef) rfl (by kernel_rfl) (by kernel_rfl) (by kernel_rfl) (fun _ _ _ h => h) (Or.inr ⟨by rfl, rfl⟩) ⟨(rowAt Zb), (rowMid Zl (2) (Ld.ballot L)), (rowAt Za)⟩ ?_
          try simp only [Act.put, List.getElem_toArray, List.getElem_cons_zero, List.getElem_cons_succ, List.setIfInBounds_toArray, List.set_cons_zero, List.set_cons_succ]
          refine wpAnyH_take (i := 30) (v := undef) rfl (by kernel_rfl) (by kernel_rfl) (by kernel_rfl) (fun _ _ _ h => h) (Or.inr ⟨by rfl, rfl⟩) ⟨(rowAt Zb), (rowMid Zl (2) (Ld.ballot L)), (rowAt Za)⟩ ?_
          try simp only [Act.put, List.getElem_toArray, List.getElem_cons_zero, List.getElem_cons_succ, List.setIfInBounds_toArray, List.set_cons_zero, List.set_cons_succ]
          refine wpAnyH_take (i := 31) (v := .bool true) rfl (by kernel_rfl) (by kernel_rfl) (by kernel_rfl) (fun _ _ _ h => h) (Or.inl ⟨by rfl, fun w_ hS_ => by (first | (go_simp; done) | (go_simp; rfl))⟩) ⟨(rowAt Zb), (rowMid Zl (2) (Ld.ballot L)), (rowAt Za)⟩ ?_
          try simp only [Act.put, List.getElem_toArray, List.getElem_cons_zero, List.getElem_cons_succ, List.setIfInBounds_toArray, List.set_cons_zero, List.set_cons_succ]
          refine wpAnyH_take (i := 32) (v := .bool true) rfl (by kernel_rfl) (by kernel_rfl) (by kernel_rfl) (fun _ _ _ h => h) (Or.inl ⟨by rfl, fun w_ hS_ => by (first | (go_simp; done) | (go_simp; rfl))⟩) ⟨(rowAt Zb), (rowMid Zl (2) (Ld.ballot L)), (rowAt Za)⟩ ?_
          try simp only [Act.put, List.getElem_toArray, List.getElem_cons_zero, List.getElem_cons_succ, List.setIfInBounds_toArray, List.set_cons_zero, List.set_cons_succ]
          refine wpAnyH_take (i := 33) (v := undef) rfl (by kernel_rfl) (by kernel_rfl) (by kernel_rfl) (fun _ _ _ h => h) (Or.inr ⟨by rfl, rfl⟩) ⟨(rowAt Zb), (rowMid Zl (2) (Ld.ballot L)), (rowAt Za)⟩ ?_
          try simp only [Act.put, List.getElem_toArray, List.getElem_cons_zero, List.getElem_cons_succ, List.setIfInBounds_toArray, List.set_cons_zero, List.set_cons_succ]
          refine wpAnyH_take (i := 34) (v := undef) rfl (by kernel_rfl) (by kernel_rfl) (by kernel_rfl) (fun _ _ _ h => h) (Or.inr ⟨by rfl, rfl⟩) ⟨(rowAt Zb), (rowMid Zl (2) (Ld.ballot L)), (rowAt Za)⟩ ?_
          try simp only [Act.put, List.getElem_toArray, List.getElem_cons_zero, List.getElem_cons_succ, List.setIfInBounds_toArray, List.set_cons_zero, List.set_cons_succ]
          refine wpAnyH_take (i := 35) (v := undef) rfl (by kernel_rfl) (by kernel_rfl) (by kernel_rfl) (fun _ _ _ h => h) (Or.inr ⟨by rfl, rfl⟩) ⟨(rowAt Zb), (rowMid Zl (2) (Ld.ballot L)), (rowAt Za)⟩ ?_
          try simp only [Act.put, List.getElem_toArray, List.getElem_cons_zero, List.getElem_cons_succ, List.setIfInBounds_toArray, List.set_cons_zero, List.set_cons_succ]
          refine wpAnyH_take (i := 36) (v := undef) rfl (by kernel_rfl) (by kernel_rfl) (by kernel_rfl) (fun _ _ _ h => h) (Or.inr ⟨by rfl, rfl⟩) ⟨(rowAt Zb), (rowMid Zl (2) (Ld.ballot L)), (rowAt Za)⟩ ?_
          try simp only [Act.put, List.getElem_toArray, List.getElem_cons_zero, List.getElem_cons_succ, List.setIfInBounds_toArray, List.set_cons_zero, List.set_cons_succ]
          refine wpAnyH_take (i := 37) (v := undef) rfl (by kernel_rfl) (by kernel_rfl) (by kernel_rfl) (fun _ _ _ h => h) (Or.inr ⟨by rfl, rfl⟩) ⟨(rowAt Zb), (rowMid Zl (2) (Ld.ballot L)), (rowAt Za)⟩ ?_
          try simp only [Act.put, List.getElem_toArray, List.getElem_cons_zero, List.getElem_cons_succ, List.setIfInBounds_toArray, List.set_cons_zero, List.set_cons_succ]
          refine wpAnyH_take (i := 38) (v := undef) rfl (by kernel_rfl) (by kernel_rfl) (by kernel_rfl) (fun _ _ _ h => h) (Or.inr ⟨by rfl, rfl⟩) ⟨(rowAt Zb), (rowMid Zl (2) (Ld.ballot L)), (rowAt Za)⟩ ?_
          try simp only [Act.put, List.getElem_toArray, List.getElem_cons_zero, List.getElem_cons_succ, List.setIfInBounds_toArray, List.set_cons_zero, List.set_cons_succ]
          refine wpAnyH_take (i := 39) (v := .bool true) rfl (by kernel_rfl) (by kernel_rfl) (by kernel_rfl) (fun _ _ _ h => h) (Or.inl ⟨by rfl, fun w_ hS_ => by (first | (go_simp; done) | (go_simp; rfl))⟩) ⟨(rowAt Zb), (rowMid Zl (2) (Ld.ballot L)), (rowAt Za)⟩ ?_
          try simp only [Act.put, List.getElem_toArray, List.getElem_cons_zero, List.getElem_cons_succ, List.setIfInBounds_toArray, List.set_cons_zero, List.set_cons_succ]
          refine wpAnyH_done (by kernel_rfl) ?_ _
          clear HHA HFO hI hJ h4 h5 HE1
          go_wp2_with fail
          go_ret
          exact ⟨rfl, ee⟩
        | false =>
          cases d5 with
          | true =>
            have Zl : w0.drew.heap[h]? = some (.cells L.cells.toArray 144) := Zl
            have Zb : w0.drew.heap[w.heap.size]? = some (.cells [.int .u32 (br : Int), .int .i64 bn].toArray 28) := Zb
            have Za : w0.drew.heap[w.heap.size + 1]? = some (.cells a.cells.toArray 39) := Za
            have ee := belowDrewS ee
            refine wp_region_held_drew (S := fun z' => z'.rangeAt w.heap.size (0) ([.int .u32 (br : Int), .int .i64 bn]) ∧ z'.rangeAt h (2) ([.int .u32 (L.br : Int), .int .i64 L.bn]) ∧ z'.rangeAt (w.heap.size + 1) (0) a.cells ∧ z'.cell? ⟨h, 0, none⟩ = some (.int .i64 L.n)) (by kernel_rfl) ⟨(rowAt Zb), (rowMid Zl (2) (Ld.ballot L)), (rowAt Za), (rowCell Zl (0) rfl)⟩ (fun hH => ?_)
            clear hH
            generalize w0.drew = z1 at Zl Zb Za ee ⊢
            refine wpAnyH_take (i := 0) (v := .pointer (some ⟨h, 0, none⟩)) rfl (by kernel_rfl) (by kernel_rfl) (by kernel_rfl) (fun _ _ _ h => h) (Or.inl ⟨by rfl, fun w_ hS_ => by (first | (go_simp; done) | (go_simp; rfl))⟩) ⟨(rowAt Zb), (rowMid Zl (2) (Ld.ballot L)), (rowAt Za), (rowCell Zl (0) rfl)⟩ ?_
            try simp only [Act.put, List.getElem_toArray, List.getElem_cons_zero, List.getElem_cons_succ, List.setIfInBounds_toArray, List.set_cons_zero, List.set_cons_succ]
            refine wpAnyH_take (i := 1) (v := .bool false) rfl (by kernel_rfl) (by kernel_rfl) (by kernel_rfl) (fun _ _ _ h => h) (Or.inl ⟨by rfl, fun w_ hS_ => by (first | (go_simp; done) | (go_simp; rfl))⟩) ⟨(rowAt Zb), (rowMid Zl (2) (Ld.ballot L)), (rowAt Za), (rowCell Zl (0) rfl)⟩ ?_
            try simp only [Act.put, List.getElem_toArray, List.getElem_cons_zero, List.getElem_cons_succ, List.setIfInBounds_toArray, List.set_cons_zero, List.set_cons_succ]
            refine wpAnyH_take (i := 2) (v := .bool false) rfl (by kernel_rfl) (by kernel_rfl) (by kernel_rfl) (fun _ _ _ h => h) (Or.inl ⟨by rfl, fun w_ hS_ => by (first | (go_simp; done) | (go_simp; rfl))⟩) ⟨(rowAt Zb), (rowMid Zl (2) (Ld.ballot L)), (rowAt Za), (rowCell Zl (0) rfl)⟩ ?_
            try simp only [Act.put, List.getElem_toArray, List.getElem_cons_zero, List.getElem_cons_succ, List.setIfInBounds_toArray, List.set_cons_zero, List.set_cons_succ]
            refine wpAnyH_take (i := 3) (v := .agg ([.int .u32 (br : Int), .int .i64 bn]).toArray) rfl (by kernel_rfl) (by kernel_rfl) (by kernel_rfl) (fun _ _ _ h => h) (yieldsIf_load_mid (by rfl) 28 _ rfl (w.heap.size) (0) rfl ([.int .u32 (br : Int), .int .i64 bn]) _ (fun _ h => h.1) Tryd.underlying28 rfl sizeBal) ⟨(rowAt Zb), (rowMid Zl (2) (Ld.ballot L)), (rowAt Za), (rowCell Zl (0) rfl)⟩ ?_
            try simp only [Act.put, List.getElem_toArray, List.getElem_cons_zero, List.getElem_cons_succ, List.setIfInBounds_toArray, List.set_cons_zero, List.set_cons_succ]
            refine wpAnyH_take (i := 4) (v := .pointer (some ⟨h, 0, none⟩)) rfl (by kernel_rfl) (by kernel_rfl) (by kernel_rfl) (fun _ _ _ h => h) (Or.inl ⟨by rfl, fun w_ hS_ => by (first | (go_simp; done) | (go_simp; rfl))⟩) ⟨(rowAt Zb), (rowMid Zl (2) (Ld.ballot L)), (rowAt Za), (rowCell Zl (0) rfl)⟩ ?_
            try simp only [Act.put, List.getElem_toArray, List.getElem_cons_zero, List.getElem_cons_succ, List.setIfInBounds_toArray, List.set_cons_zero, List.set_cons_succ]
            refine wpAnyH_take (i := 5) (v := .pointer (some ⟨h, 0, none⟩)) rfl (by kernel_rfl) (by kernel_rfl) (by kernel_rfl) (fun _ _ _ h => h) (Or.inl ⟨by rfl, fun w_ hS_ => by (first | (go_simp; done) | (go_simp; rfl))⟩) ⟨(rowAt Zb), (rowMid Zl (2) (Ld.ballot L)), (rowAt Za), (rowCell Zl (0) rfl)⟩ ?_
            try simp only [Act.put, List.getElem_toArray, List.getElem_cons_zero, List.getElem_cons_succ, List.setIfInBounds_toArray, List.set_cons_zero, List.set_cons_succ]
            refine wpAnyH_take (i := 6) (v := .pointer (some ⟨h, 2, none⟩)) rfl (by kernel_rfl) (by kernel_rfl) (by kernel_rfl) (fun _ _ _ h => h) (Or.inl ⟨by rfl, fun w_ hS_ => by (first | (go_simp; done) | (go_simp; rfl))⟩) ⟨(rowAt Zb), (rowMid Zl (2) (Ld.ballot L)), (rowAt Za), (rowCell Zl (0) rfl)⟩ ?_
            try simp only [Act.put, List.getElem_toArray, List.getElem_cons_zero, List.getElem_cons_succ, List.setIfInBounds_toArray, List.set_cons_zero, List.set_cons_succ]
            refine wpAnyH_take (i := 7) (v := .agg ([.int .u32 (L.br : Int), .int .i64 L.bn]).toArray) rfl (by kernel_rfl) (by kernel_rfl) (by kernel_rfl) (fun _ _ _ h => h) (yieldsIf_load_mid (by rfl) 28 _ rfl (h) (2) rfl ([.int .u32 (L.br : Int), .int .i64 L.bn]) _ (fun _ h => h.2.1) Tryd.underlying28 rfl sizeBal) ⟨(rowAt Zb), (rowMid Zl (2) (Ld.ballot L)), (rowAt Za), (rowCell Zl (0) rfl)⟩ ?_
            try simp only [Act.put, List.getElem_toArray, List.getElem_cons_zero, List.getElem_cons_succ, List.setIfInBounds_toArray, List.set_cons_zero, List.set_cons_succ]
            refine wpAnyH_take (i := 8) (v := .bool false) rfl (by kernel_rfl) (by kernel_rfl) (by kernel_rfl) (fun _ _ _ h => h) (Or.inl ⟨by rfl, fun w_ hS_ => by (first | (go_simp; done) | (go_simp; rfl))⟩) ⟨(rowAt Zb), (rowMid Zl (2) (Ld.ballot L)), (rowAt Za), (rowCell Zl (0) rfl)⟩ ?_
            try simp only [Act.put, List.getElem_toArray, List.getElem_cons_zero, List.getElem_cons_succ, List.setIfInBounds_toArray, List.set_cons_zero, List.set_cons_succ]
            refine wpAnyH_take (i := 9) (v := .bool false) rfl (by kernel_rfl) (by kernel_rfl) (by kernel_rfl) (fun _ _ _ h => h) (Or.inl ⟨by rfl, fun w_ hS_ => by (first | (go_simp; done) | (go_simp; rfl))⟩) ⟨(rowAt Zb), (rowMid Zl (2) (Ld.ballot L)), (rowAt Za), (rowCell Zl (0) rfl)⟩ ?_
            try simp only [Act.put, List.getElem_toArray, List.getElem_cons_zero, List.getElem_cons_succ, List.setIfInBounds_toArray, List.set_cons_zero, List.set_cons_succ]
            refine wpAnyH_take (i := 10) (v := .bool false) rfl (by kernel_rfl) (by kernel_rfl) (by kernel_rfl) (fun _ _ _ h => h) (Or.inl ⟨by rfl, fun w_ hS_ => by (first | (go_simp; done) | (go_simp; rfl))⟩) ⟨(rowAt Zb), (rowMid Zl (2) (Ld.ballot L)), (rowAt Za), (rowCell Zl (0) rfl)⟩ ?_
            try simp only [Act.put, List.getElem_toArray, List.getElem_cons_zero, List.getElem_cons_succ, List.setIfInBounds_toArray, List.set_cons_zero, List.set_cons_succ]
            refine wpAnyH_take (i := 11) (v := .agg ([.int .u32 (br : Int), .int .i64 bn]).toArray) rfl (by kernel_rfl) (by kernel_rfl) (by kernel_rfl) (fun _ _ _ h => h) (yieldsIf_load_mid (by rfl) 28 _ rfl (w.heap.size) (0) rfl ([.int .u32 (br : Int), .int .i64 bn]) _ (fun _ h => h.1) Tryd.underlying28 rfl sizeBal) ⟨(rowAt Zb), (rowMid Zl (2) (Ld.ballot L)), (rowAt Za), (rowCell Zl (0) rfl)⟩ ?_
            try simp only [Act.put, List.getElem_toArray, List.getElem_cons_zero, List.getElem_cons_succ, List.setIfInBounds_toArray, List.set_cons_zero, List.set_cons_succ]
            refine wpAnyH_take (i := 12) (v := .agg #[.int .u32 0, .int .i64 0]) rfl (by kernel_rfl) (by kernel_rfl) (by kernel_rfl) (fun _ _ _ h => h) (Or.inl ⟨by rfl, fun w_ hS_ => by (first | (go_simp; done) | (go_simp; rfl))⟩) ⟨(rowAt Zb), (rowMid Zl (2) (Ld.ballot L)), (rowAt Za), (rowCell Zl (0) rfl)⟩ ?_
            try simp only [Act.put, List.getElem_toArray, List.getElem_cons_zero, List.getElem_cons_succ, List.setIfInBounds_toArray, List.set_cons_zero, List.set_cons_succ]
            refine wpAnyH_take (i := 13) (v := .bool false) rfl (by kernel_rfl) (by kernel_rfl) (by kernel_rfl) (fun _ _ _ h => h) (Or.inl ⟨by rfl, fun w_ hS_ => by (first | (go_simp; done) | (go_simp; rfl))⟩) ⟨(rowAt Zb), (rowMid Zl (2) (Ld.ballot L)), (rowAt Za), (rowCell Zl (0) rfl)⟩ ?_
            try simp only [Act.put, List.getElem_toArray, List.getElem_cons_zero, List.getElem_cons_succ, List.setIfInBounds_toArray, List.set_cons_zero, List.set_cons_succ]
            refine wpAnyH_take (i := 14) (v := .bool false) rfl (by kernel_rfl) (by kernel_rfl) (by kernel_rfl) (fun _ _ _ h => h) (Or.inl ⟨by rfl, fun w_ hS_ => by (first | (go_simp; done) | (go_simp; rfl))⟩) ⟨(rowAt Zb), (rowMid Zl (2) (Ld.ballot L)), (rowAt Za), (rowCell Zl (0) rfl)⟩ ?_
            try simp only [Act.put, List.getElem_toArray, List.getElem_cons_zero, List.getElem_cons_succ, List.setIfInBounds_toArray, List.set_cons_zero, List.set_cons_succ]
            refine wpAnyH_take (i := 15) (v := .bool false) rfl (by kernel_rfl) (by kernel_rfl) (by kernel_rfl) (fun _ _ _ h => h) (Or.inl ⟨by rfl, fun w_ hS_ => by (first | (go_simp; done) | (go_simp; rfl))⟩) ⟨(rowAt Zb), (rowMid Zl (2) (Ld.ballot L)), (rowAt Za), (rowCell Zl (0) rfl)⟩ ?_
            try simp only [Act.put, List.getElem_toArray, List.getElem_cons_zero, List.getElem_cons_succ, List.setIfInBounds_toArray, List.set_cons_zero, List.set_cons_succ]
            refine wpAnyH_take (i := 16) (v := .agg (a.cells).toArray) rfl (by kernel_rfl) (by kernel_rfl) (by kernel_rfl) (fun _ _ _ h => h) (yieldsIf_load_mid (by rfl) 39 _ rfl (w.heap.size + 1) (0) rfl (a.cells) _ (fun _ h => h.2.2.1) Tryd.underlying39 rfl sizeAc) ⟨(rowAt Zb), (rowMid Zl (2) (Ld.ballot L)), (rowAt Za), (rowCell Zl (0) rfl)⟩ ?_
            try simp only [Act.put, List.getElem_toArray, List.getElem_cons_zero, List.getElem_cons_succ, List.setIfInBounds_toArray, List.set_cons_zero, List.set_cons_succ]
            refine wpAnyH_ready (rs := [17]) (by kernel_rfl) (by simp) ?_
            refine AllReadyH.cons rfl (fun K hK => ?_) AllReadyH.nil
            rw [if_pos (by rfl)]
            go_simp
            go_wp2_with (go_at_call 20; refine (HFO.out z1 ee).mono ?_; rintro e z2 ⟨rfl, t⟩)
            have Zl := hpB Zl t
            have Zb := hpB Zb t
            have Za := hpB Za t
            have ee := ee.trans (t.mono ee.size)
            clear t
            refine hK.out _ _ ⟨(rowAt Zb), (rowMid Zl (2) (Ld.ballot L)), (rowAt Za), (rowCell Zl (0) rfl)⟩ (fun hH => ?_)
            clear hK K hH
            try simp only [Act.put, List.getElem_toArray, List.getElem_cons_zero, List.getElem_cons_succ, List.setIfInBounds_toArray, List.set_cons_zero, List.set_cons_succ]
            refine wpAnyH_take (i := 18) (v := .bool false) rfl (by kernel_rfl) (by kernel_rfl) (by kernel_rfl) (fun _ _ _ h => h) (Or.inl ⟨by rfl, fun w_ hS_ => by (first | (go_simp; done) | (go_simp; rfl))⟩) ⟨(rowAt Zb), (rowMid Zl (2) (Ld.ballot L)), (rowAt Za), (rowCell Zl (0) rfl)⟩ ?_
            try simp only [Act.put, List.getElem_toArray, List.getElem_cons_zero, List.getElem_cons_succ, List.setIfInBounds_toArray, List.set_cons_zero, List.set_cons_succ]
            refine wpAnyH_take (i := 19) (v := .bool false) rfl (by kernel_rfl) (by kernel_rfl) (by kernel_rfl) (fun _ _ _ h => h) (Or.inl ⟨by rfl, fun w_ hS_ => by (first | (go_simp; done) | (go_simp; rfl))⟩) ⟨(rowAt Zb), (rowMid Zl (2) (Ld.ballot L)), (rowAt Za), (rowCell Zl (0) rfl)⟩ ?_
            try simp only [Act.put, List.getElem_toArray, List.getElem_cons_zero, List.getElem_cons_succ, List.setIfInBounds_toArray, List.set_cons_zero, List.set_cons_succ]
            refine wpAnyH_take (i := 20) (v := .bool false) rfl (by kernel_rfl) (by kernel_rfl) (by kernel_rfl) (fun _ _ _ h => h) (Or.inl ⟨by rfl, fun w_ hS_ => by (first | (go_simp; done) | (go_simp; rfl))⟩) ⟨(rowAt Zb), (rowMid Zl (2) (Ld.ballot L)), (rowAt Za), (rowCell Zl (0) rfl)⟩ ?_
            try simp only [Act.put, List.getElem_toArray, List.getElem_cons_zero, List.getElem_cons_succ, List.setIfInBounds_toArray, List.set_cons_zero, List.set_cons_succ]
            refine wpAnyH_take (i := 21) (v := .int .i64 k) rfl (by kernel_rfl) (by kernel_rfl) (by kernel_rfl) (fun _ _ _ h => h) (Or.inl ⟨by rfl, fun w_ hS_ => by (first | (go_simp; done) | (go_simp; rfl))⟩) ⟨(rowAt Zb), (rowMid Zl (2) (Ld.ballot L)), (rowAt Za), (rowCell Zl (0) rfl)⟩ ?_
            try simp only [Act.put, List.getElem_toArray, List.getElem_cons_zero, List.getElem_cons_succ, List.setIfInBounds_toArray, List.set_cons_zero, List.set_cons_succ]
            refine wpAnyH_take (i := 22) (v := .bool false) rfl (by kernel_rfl) (by kernel_rfl) (by kernel_rfl) (fun _ _ _ h => h) (Or.inl ⟨by rfl, fun w_ hS_ => by (first | (go_simp; done) | (go_simp; rfl))⟩) ⟨(rowAt Zb), (rowMid Zl (2) (Ld.ballot L)), (rowAt Za), (rowCell Zl (0) rfl)⟩ ?_
            try simp only [Act.put, List.getElem_toArray, List.getElem_cons_zero, List.getElem_cons_succ, List.setIfInBounds_toArray, List.set_cons_zero, List.set_cons_succ]
            refine wpAnyH_take (i := 23) (v := .bool false) rfl (by kernel_rfl) (by kernel_rfl) (by kernel_rfl) (fun _ _ _ h => h) (Or.inl ⟨by rfl, fun w_ hS_ => by (first | (go_simp; done) | (go_simp; rfl))⟩) ⟨(rowAt Zb), (rowMid Zl (2) (Ld.ballot L)), (rowAt Za), (rowCell Zl (0) rfl)⟩ ?_
            try simp only [Act.put, List.getElem_toArray, List.getElem_cons_zero, List.getElem_cons_succ, List.setIfInBounds_toArray, List.set_cons_zero, List.set_cons_succ]
            refine wpAnyH_take (i := 24) (v := .bool false) rfl (by kernel_rfl) (by kernel_rfl) (by kernel_rfl) (fun _ _ _ h => h) (Or.inl ⟨by rfl, fun w_ hS_ => by (first | (go_simp; done) | (go_simp; rfl))⟩) ⟨(rowAt Zb), (rowMid Zl (2) (Ld.ballot L)), (rowAt Za), (rowCell Zl (0) rfl)⟩ ?_
            try simp only [Act.put, List.getElem_toArray, List.getElem_cons_zero, List.getElem_cons_succ, List.setIfInBounds_toArray, List.set_cons_zero, List.set_cons_succ]
            refine wpAnyH_take (i := 25) (v := .int .i64 k) rfl (by kernel_rfl) (by kernel_rfl) (by kernel_rfl) (fun _ _ _ h => h) (Or.inl ⟨by rfl, fun w_ hS_ => by (first | (go_simp; done) | (go_simp; rfl))⟩) ⟨(rowAt Zb), (rowMid Zl (2) (Ld.ballot L)), (rowAt Za), (rowCell Zl (0) rfl)⟩ ?_
            try simp only [Act.put, List.getElem_toArray, List.getElem_cons_zero, List.getElem_cons_succ, List.setIfInBounds_toArray, List.set_cons_zero, List.set_cons_succ]
            refine wpAnyH_take (i := 26) (v := .pointer (some ⟨h, 0, none⟩)) rfl (by kernel_rfl) (by kernel_rfl) (by kernel_rfl) (fun _ _ _ h => h) (Or.inl ⟨by rfl, fun w_ hS_ => by (first | (go_simp; done) | (go_simp; rfl))⟩) ⟨(rowAt Zb), (rowMid Zl (2) (Ld.ballot L)), (rowAt Za), (rowCell Zl (0) rfl)⟩ ?_
            try simp only [Act.put, List.getElem_toArray, List.getElem_cons_zero, List.getElem_cons_succ, List.setIfInBounds_toArray, List.set_cons_zero, List.set_cons_succ]
            refine wpAnyH_take (i := 27) (v := .pointer (some ⟨h, 0, none⟩)) rfl (by kernel_rfl) (by kernel_rfl) (by kernel_rfl) (fun _ _ _ h => h) (Or.inl ⟨by rfl, fun w_ hS_ => by (first | (go_simp; done) | (go_simp; rfl))⟩) ⟨(rowAt Zb), (rowMid Zl (2) (Ld.ballot L)), (rowAt Za), (rowCell Zl (0) rfl)⟩ ?_
            try simp only [Act.put, List.getElem_toArray, List.getElem_cons_zero, List.getElem_cons_succ, List.setIfInBounds_toArray, List.set_cons_zero, List.set_cons_succ]
            refine wpAnyH_take (i := 28) (v := .pointer (some ⟨h, 0, none⟩)) rfl (by kernel_rfl) (by kernel_rfl) (by kernel_rfl) (fun _ _ _ h => h) (Or.inl ⟨by rfl, fun w_ hS_ => by (first | (go_simp; done) | (go_simp; rfl))⟩) ⟨(rowAt Zb), (rowMid Zl (2) (Ld.ballot L)), (rowAt Za), (rowCell Zl (0) rfl)⟩ ?_
            try simp only [Act.put, List.getElem_toArray, List.getElem_cons_zero, List.getElem_cons_succ, List.setIfInBounds_toArray, List.set_cons_zero, List.set_cons_succ]
            refine wpAnyH_take (i := 29) (v := .int .i64 L.n) rfl (by kernel_rfl) (by kernel_rfl) (by kernel_rfl) (fun _ _ _ h => h) (Or.inl ⟨by rfl, fun w_ hS_ => by (have c_ := hS_.2.2.2; first | (go_simp; done) | (go_simp; rfl))⟩) ⟨(rowAt Zb), (rowMid Zl (2) (Ld.ballot L)), (rowAt Za), (rowCell Zl (0) rfl)⟩ ?_
            try simp only [Act.put, List.getElem_toArray, List.getElem_cons_zero, List.getElem_cons_succ, List.setIfInBounds_toArray, List.set_cons_zero, List.set_cons_succ]
            refine wpAnyH_take (i := 30) (v := .bool true) rfl (by kernel_rfl) (by kernel_rfl) (by kernel_rfl) (fun _ _ _ h => h) (Or.inl ⟨by rfl, fun w_ hS_ => by (first | (go_simp; done) | (go_simp; rfl))⟩) ⟨(rowAt Zb), (rowMid Zl (2) (Ld.ballot L)), (rowAt Za), (rowCell Zl (0) rfl)⟩ ?_
            try simp only [Act.put, List.getElem_toArray, List.getElem_cons_zero, List.getElem_cons_succ, List.setIfInBounds_toArray, List.set_cons_zero, List.set_cons_succ]
            refine wpAnyH_take (i := 31) (v := .bool true) rfl (by kernel_rfl) (by kernel_rfl) (by kernel_rfl) (fun _ _ _ h => h) (Or.inl ⟨by rfl, fun w_ hS_ => by (first | (go_simp; done) | (go_simp; rfl))⟩) ⟨(rowAt Zb), (rowMid Zl (2) (Ld.ballot L)), (rowAt Za), (rowCell Zl (0) rfl)⟩ ?_
            try simp only [Act.put, List.getElem_toArray, List.getElem_cons_zero, List.getElem_cons_succ, List.setIfInBounds_toArray, List.set_cons_zero, List.set_cons_succ]
            refine wpAnyH_take (i := 32) (v := .bool true) rfl (by kernel_rfl) (by kernel_rfl) (by kernel_rfl) (fun _ _ _ h => h) (Or.inl ⟨by rfl, fun w_ hS_ => by (first | (go_simp; done) | (go_simp; rfl))⟩) ⟨(rowAt Zb), (rowMid Zl (2) (Ld.ballot L)), (rowAt Za), (rowCell Zl (0) rfl)⟩ ?_
            try simp only [Act.put, List.getElem_toArray, List.getElem_cons_zero, List.getElem_cons_succ, List.setIfInBounds_toArray, List.set_cons_zero, List.set_cons_succ]
            refine wpAnyH_take (i := 33) (v := undef) rfl (by kernel_rfl) (by kernel_rfl) (by kernel_rfl) (fun _ _ _ h => h) (Or.inr ⟨by rfl, rfl⟩) ⟨(rowAt Zb), (rowMid Zl (2) (Ld.ballot L)), (rowAt Za), (rowCell Zl (0) rfl)⟩ ?_
            try simp only [Act.put, List.getElem_toArray, List.getElem_cons_zero, List.getElem_cons_succ, List.setIfInBounds_toArray, List.set_cons_zero, List.set_cons_succ]
            refine wpAnyH_take (i := 34) (v := undef) rfl (by kernel_rfl) (by kernel_rfl) (by kernel_rfl) (fun _ _ _ h => h) (Or.inr ⟨by rfl, rfl⟩) ⟨(rowAt Zb), (rowMid Zl (2) (Ld.ballot L)), (rowAt Za), (rowCell Zl (0) rfl)⟩ ?_
            try simp only [Act.put, List.getElem_toArray, List.getElem_cons_zero, List.getElem_cons_succ, List.setIfInBounds_toArray, List.set_cons_zero, List.set_cons_succ]
            refine wpAnyH_take (i := 35) (v := undef) rfl (by kernel_rfl) (by kernel_rfl) (by kernel_rfl) (fun _ _ _ h => h) (Or.inr ⟨by rfl, rfl⟩) ⟨(rowAt Zb), (rowMid Zl (2) (Ld.ballot L)), (rowAt Za), (rowCell Zl (0) rfl)⟩ ?_
            try simp only [Act.put, List.getElem_toArray, List.getElem_cons_zero, List.getElem_cons_succ, List.setIfInBounds_toArray, List.set_cons_zero, List.set_cons_succ]
            refine wpAnyH_take (i := 36) (v := undef) rfl (by kernel_rfl) (by kernel_rfl) (by kernel_rfl) (fun _ _ _ h => h) (Or.inr ⟨by rfl, rfl⟩) ⟨(rowAt Zb), (rowMid Zl (2) (Ld.ballot L)), (rowAt Za), (rowCell Zl (0) rfl)⟩ ?_
            try simp only [Act.put, List.getElem_toArray, List.getElem_cons_zero, List.getElem_cons_succ, List.setIfInBounds_toArray, List.set_cons_zero, List.set_cons_succ]
            refine wpAnyH_take (i := 37) (v := undef) rfl (by kernel_rfl) (by kernel_rfl) (by kernel_rfl) (fun _ _ _ h => h) (Or.inr ⟨by rfl, rfl⟩) ⟨(rowAt Zb), (rowMid Zl (2) (Ld.ballot L)), (rowAt Za), (rowCell Zl (0) rfl)⟩ ?_
            try simp only [Act.put, List.getElem_toArray, List.getElem_cons_zero, List.getElem_cons_succ, List.setIfInBounds_toArray, List.set_cons_zero, List.set_cons_succ]
            refine wpAnyH_take (i := 38) (v := undef) rfl (by kernel_rfl) (by kernel_rfl) (by kernel_rfl) (fun _ _ _ h => h) (Or.inr ⟨by rfl, rfl⟩) ⟨(rowAt Zb), (rowMid Zl (2) (Ld.ballot L)), (rowAt Za), (rowCell Zl (0) rfl)⟩ ?_
            try simp only [Act.put, List.getElem_toArray, List.getElem_cons_zero, List.getElem_cons_succ, List.setIfInBounds_toArray, List.set_cons_zero, List.set_cons_succ]
            refine wpAnyH_take (i := 39) (v := .bool true) rfl (by kernel_rfl) (by kernel_rfl) (by kernel_rfl) (fun _ _ _ h => h) (Or.inl ⟨by rfl, fun w_ hS_ => by (first | (go_simp; done) | (go_simp; rfl))⟩) ⟨(rowAt Zb), (rowMid Zl (2) (Ld.ballot L)), (rowAt Za), (rowCell Zl (0) rfl)⟩ ?_
            try simp only [Act.put, List.getElem_toArray, List.getElem_cons_zero, List.getElem_cons_succ, List.setIfInBounds_toArray, List.set_cons_zero, List.set_cons_succ]
            refine wpAnyH_done (by kernel_rfl) ?_ _
            clear HHA HFO hI hJ h4 h5 HE1
            go_wp2_with fail
            go_ret
            exact ⟨rfl, ee⟩
          | false =>
            cases d6 with
            | true =>
              have Zl : w0.drew.heap[h]? = some (.cells L.cells.toArray 144) := Zl
              have Zb : w0.drew.heap[w.heap.size]? = some (.cells [.int .u32 (br : Int), .int .i64 bn].toArray 28) := Zb
              have Za : w0.drew.heap[w.heap.size + 1]? = some (.cells a.cells.toArray 39) := Za
              have ee := belowDrewS ee
              refine wp_region_held_drew (S := fun z' => z'.rangeAt w.heap.size (0) ([.int .u32 (br : Int), .int .i64 bn]) ∧ z'.rangeAt h (2) ([.int .u32 (L.br : Int), .int .i64 L.bn]) ∧ z'.rangeAt (w.heap.size + 1) (0) a.cells ∧ z'.cell? ⟨h, 0, none⟩ = some (.int .i64 L.n) ∧ z'.cell? ⟨h, 4, none⟩ = some (.int .u64 ((L.pr : Int)))) (by kernel_rfl) ⟨(rowAt Zb), (rowMid Zl (2) (Ld.ballot L)), (rowAt Za), (rowCell Zl (0) rfl), (rowCell Zl (4) rfl)⟩ (fun hH => ?_)
              clear hH
              generalize w0.drew = z1 at Zl Zb Za ee ⊢
              refine wpAnyH_take (i := 0) (v := .pointer (some ⟨h, 0, none⟩)) rfl (by kernel_rfl) (by kernel_rfl) (by kernel_rfl) (fun _ _ _ h => h) (Or.inl ⟨by rfl, fun w_ hS_ => by (first | (go_simp; done) | (go_simp; rfl))⟩) ⟨(rowAt Zb), (rowMid Zl (2) (Ld.ballot L)), (rowAt Za), (rowCell Zl (0) rfl), (rowCell Zl (4) rfl)⟩ ?_
              try simp only [Act.put, List.getElem_toArray, List.getElem_cons_zero, List.getElem_cons_succ, List.setIfInBounds_toArray, List.set_cons_zero, List.set_cons_succ]
              refine wpAnyH_take (i := 1) (v := .bool false) rfl (by kernel_rfl) (by kernel_rfl) (by kernel_rfl) (fun _ _ _ h => h) (Or.inl ⟨by rfl, fun w_ hS_ => by (first | (go_simp; done) | (go_simp; rfl))⟩) ⟨(rowAt Zb), (rowMid Zl (2) (Ld.ballot L)), (rowAt Za), (rowCell Zl (0) rfl), (rowCell Zl (4) rfl)⟩ ?_
              try simp only [Act.put, List.getElem_toArray, List.getElem_cons_zero, List.getElem_cons_succ, List.setIfInBounds_toArray, List.set_cons_zero, List.set_cons_succ]
              refine wpAnyH_take (i := 2) (v := .bool false) rfl (by kernel_rfl) (by kernel_rfl) (by kernel_rfl) (fun _ _ _ h => h) (Or.inl ⟨by rfl, fun w_ hS_ => by (first | (go_simp; done) | (go_simp; rfl))⟩) ⟨(rowAt Zb), (rowMid Zl (2) (Ld.ballot L)), (rowAt Za), (rowCell Zl (0) rfl), (rowCell Zl (4) rfl)⟩ ?_
              try simp only [Act.put, List.getElem_toArray, List.getElem_cons_zero, List.getElem_cons_succ, List.setIfInBounds_toArray, List.set_cons_zero, List.set_cons_succ]
              refine wpAnyH_take (i := 3) (v := .agg ([.int .u32 (br : Int), .int .i64 bn]).toArray) rfl (by kernel_rfl) (by kernel_rfl) (by kernel_rfl) (fun _ _ _ h => h) (yieldsIf_load_mid (by rfl) 28 _ rfl (w.heap.size) (0) rfl ([.int .u32 (br : Int), .int .i64 bn]) _ (fun _ h => h.1) Tryd.underlying28 rfl sizeBal) ⟨(rowAt Zb), (rowMid Zl (2) (Ld.ballot L)), (rowAt Za), (rowCell Zl (0) rfl), (rowCell Zl (4) rfl)⟩ ?_
              try simp only [Act.put, List.getElem_toArray, List.getElem_cons_zero, List.getElem_cons_succ, List.setIfInBounds_toArray, List.set_cons_zero, List.set_cons_succ]
              refine wpAnyH_take (i := 4) (v := .pointer (some ⟨h, 0, none⟩)) rfl (by kernel_rfl) (by kernel_rfl) (by kernel_rfl) (fun _ _ _ h => h) (Or.inl ⟨by rfl, fun w_ hS_ => by (first | (go_simp; done) | (go_simp; rfl))⟩) ⟨(rowAt Zb), (rowMid Zl (2) (Ld.ballot L)), (rowAt Za), (rowCell Zl (0) rfl), (rowCell Zl (4) rfl)⟩ ?_
              try simp only [Act.put, List.getElem_toArray, List.getElem_cons_zero, List.getElem_cons_succ, List.setIfInBounds_toArray, List.set_cons_zero, List.set_cons_succ]
              refine wpAnyH_take (i := 5) (v := .pointer (some ⟨h, 0, none⟩)) rfl (by kernel_rfl) (by kernel_rfl) (by kernel_rfl) (fun _ _ _ h => h) (Or.inl ⟨by rfl, fun w_ hS_ => by (first | (go_simp; done) | (go_simp; rfl))⟩) ⟨(rowAt Zb), (rowMid Zl (2) (Ld.ballot L)), (rowAt Za), (rowCell Zl (0) rfl), (rowCell Zl (4) rfl)⟩ ?_
              try simp only [Act.put, List.getElem_toArray, List.getElem_cons_zero, List.getElem_cons_succ, List.setIfInBounds_toArray, List.set_cons_zero, List.set_cons_succ]
              refine wpAnyH_take (i := 6) (v := .pointer (some ⟨h, 2, none⟩)) rfl (by kernel_rfl) (by kernel_rfl) (by kernel_rfl) (fun _ _ _ h => h) (Or.inl ⟨by rfl, fun w_ hS_ => by (first | (go_simp; done) | (go_simp; rfl))⟩) ⟨(rowAt Zb), (rowMid Zl (2) (Ld.ballot L)), (rowAt Za), (rowCell Zl (0) rfl), (rowCell Zl (4) rfl)⟩ ?_
              try simp only [Act.put, List.getElem_toArray, List.getElem_cons_zero, List.getElem_cons_succ, List.setIfInBounds_toArray, List.set_cons_zero, List.set_cons_succ]
              refine wpAnyH_take (i := 7) (v := .agg ([.int .u32 (L.br : Int), .int .i64 L.bn]).toArray) rfl (by kernel_rfl) (by kernel_rfl) (by kernel_rfl) (fun _ _ _ h => h) (yieldsIf_load_mid (by rfl) 28 _ rfl (h) (2) rfl ([.int .u32 (L.br : Int), .int .i64 L.bn]) _ (fun _ h => h.2.1) Tryd.underlying28 rfl sizeBal) ⟨(rowAt Zb), (rowMid Zl (2) (Ld.ballot L)), (rowAt Za), (rowCell Zl (0) rfl), (rowCell Zl (4) rfl)⟩ ?_
              try simp only [Act.put, List.getElem_toArray, List.getElem_cons_zero, List.getElem_cons_succ, List.setIfInBounds_toArray, List.set_cons_zero, List.set_cons_succ]
              refine wpAnyH_take (i := 8) (v := .bool false) rfl (by kernel_rfl) (by kernel_rfl) (by kernel_rfl) (fun _ _ _ h => h) (Or.inl ⟨by rfl, fun w_ hS_ => by (first | (go_simp; done) | (go_simp; rfl))⟩) ⟨(rowAt Zb), (rowMid Zl (2) (Ld.ballot L)), (rowAt Za), (rowCell Zl (0) rfl), (rowCell Zl (4) rfl)⟩ ?_
              try simp only [Act.put, List.getElem_toArray, List.getElem_cons_zero, List.getElem_cons_succ, List.setIfInBounds_toArray, List.set_cons_zero, List.set_cons_succ]
              refine wpAnyH_take (i := 9) (v := .bool false) rfl (by kernel_rfl) (by kernel_rfl) (by kernel_rfl) (fun _ _ _ h => h) (Or.inl ⟨by rfl, fun w_ hS_ => by (first | (go_simp; done) | (go_simp; rfl))⟩) ⟨(rowAt Zb), (rowMid Zl (2) (Ld.ballot L)), (rowAt Za), (rowCell Zl (0) rfl), (rowCell Zl (4) rfl)⟩ ?_
              try simp only [Act.put, List.getElem_toArray, List.getElem_cons_zero, List.getElem_cons_succ, List.setIfInBounds_toArray, List.set_cons_zero, List.set_cons_succ]
              refine wpAnyH_take (i := 10) (v := .bool false) rfl (by kernel_rfl) (by kernel_rfl) (by kernel_rfl) (fun _ _ _ h => h) (Or.inl ⟨by rfl, fun w_ hS_ => by (first | (go_simp; done) | (go_simp; rfl))⟩) ⟨(rowAt Zb), (rowMid Zl (2) (Ld.ballot L)), (rowAt Za), (rowCell Zl (0) rfl), (rowCell Zl (4) rfl)⟩ ?_
              try simp only [Act.put, List.getElem_toArray, List.getElem_cons_zero, List.getElem_cons_succ, List.setIfInBounds_toArray, List.set_cons_zero, List.set_cons_succ]
              refine wpAnyH_take (i := 11) (v := .agg ([.int .u32 (br : Int), .int .i64 bn]).toArray) rfl (by kernel_rfl) (by kernel_rfl) (by kernel_rfl) (fun _ _ _ h => h) (yieldsIf_load_mid (by rfl) 28 _ rfl (w.heap.size) (0) rfl ([.int .u32 (br : Int), .int .i64 bn]) _ (fun _ h => h.1) Tryd.underlying28 rfl sizeBal) ⟨(rowAt Zb), (rowMid Zl (2) (Ld.ballot L)), (rowAt Za), (rowCell Zl (0) rfl), (rowCell Zl (4) rfl)⟩ ?_
              try simp only [Act.put, List.getElem_toArray, List.getElem_cons_zero, List.getElem_cons_succ, List.setIfInBounds_toArray, List.set_cons_zero, List.set_cons_succ]
              refine wpAnyH_take (i := 12) (v := .agg #[.int .u32 0, .int .i64 0]) rfl (by kernel_rfl) (by kernel_rfl) (by kernel_rfl) (fun _ _ _ h => h) (Or.inl ⟨by rfl, fun w_ hS_ => by (first | (go_simp; done) | (go_simp; rfl))⟩) ⟨(rowAt Zb), (rowMid Zl (2) (Ld.ballot L)), (rowAt Za), (rowCell Zl (0) rfl), (rowCell Zl (4) rfl)⟩ ?_
              try simp only [Act.put, List.getElem_toArray, List.getElem_cons_zero, List.getElem_cons_succ, List.setIfInBounds_toArray, List.set_cons_zero, List.set_cons_succ]
              refine wpAnyH_take (i := 13) (v := .bool false) rfl (by kernel_rfl) (by kernel_rfl) (by kernel_rfl) (fun _ _ _ h => h) (Or.inl ⟨by rfl, fun w_ hS_ => by (first | (go_simp; done) | (go_simp; rfl))⟩) ⟨(rowAt Zb), (rowMid Zl (2) (Ld.ballot L)), (rowAt Za), (rowCell Zl (0) rfl), (rowCell Zl (4) rfl)⟩ ?_
              try simp only [Act.put, List.getElem_toArray, List.getElem_cons_zero, List.getElem_cons_succ, List.setIfInBounds_toArray, List.set_cons_zero, List.set_cons_succ]
              refine wpAnyH_take (i := 14) (v := .bool false) rfl (by kernel_rfl) (by kernel_rfl) (by kernel_rfl) (fun _ _ _ h => h) (Or.inl ⟨by rfl, fun w_ hS_ => by (first | (go_simp; done) | (go_simp; rfl))⟩) ⟨(rowAt Zb), (rowMid Zl (2) (Ld.ballot L)), (rowAt Za), (rowCell Zl (0) rfl), (rowCell Zl (4) rfl)⟩ ?_
              try simp only [Act.put, List.getElem_toArray, List.getElem_cons_zero, List.getElem_cons_succ, List.setIfInBounds_toArray, List.set_cons_zero, List.set_cons_succ]
              refine wpAnyH_take (i := 15) (v := .bool false) rfl (by kernel_rfl) (by kernel_rfl) (by kernel_rfl) (fun _ _ _ h => h) (Or.inl ⟨by rfl, fun w_ hS_ => by (first | (go_simp; done) | (go_simp; rfl))⟩) ⟨(rowAt Zb), (rowMid Zl (2) (Ld.ballot L)), (rowAt Za), (rowCell Zl (0) rfl), (rowCell Zl (4) rfl)⟩ ?_
              try simp only [Act.put, List.getElem_toArray, List.getElem_cons_zero, List.getElem_cons_succ, List.setIfInBounds_toArray, List.set_cons_zero, List.set_cons_succ]
              refine wpAnyH_take (i := 16) (v := .agg (a.cells).toArray) rfl (by kernel_rfl) (by kernel_rfl) (by kernel_rfl) (fun _ _ _ h => h) (yieldsIf_load_mid (by rfl) 39 _ rfl (w.heap.size + 1) (0) rfl (a.cells) _ (fun _ h => h.2.2.1) Tryd.underlying39 rfl sizeAc) ⟨(rowAt Zb), (rowMid Zl (2) (Ld.ballot L)), (rowAt Za), (rowCell Zl (0) rfl), (rowCell Zl (4) rfl)⟩ ?_
              try simp only [Act.put, List.getElem_toArray, List.getElem_cons_zero, List.getElem_cons_succ, List.setIfInBounds_toArray, List.set_cons_zero, List.set_cons_succ]
              refine wpAnyH_ready (rs := [17]) (by kernel_rfl) (by simp) ?_
              refine AllReadyH.cons rfl (fun K hK => ?_) AllReadyH.nil
              rw [if_pos (by rfl)]
              go_simp
              go_wp2_with (go_at_call 20; refine (HFO.out z1 ee).mono ?_; rintro e z2 ⟨rfl, t⟩)
              have Zl := hpB Zl t
              have Zb := hpB Zb t
              have Za := hpB Za t
              have ee := ee.trans (t.mono ee.size)
              clear t
              refine hK.out _ _ ⟨(rowAt Zb), (rowMid Zl (2) (Ld.ballot L)), (rowAt Za), (rowCell Zl (0) rfl), (rowCell Zl (4) rfl)⟩ (fun hH => ?_)
              clear hK K hH
              try simp only [Act.put, List.getElem_toArray, List.getElem_cons_zero, List.getElem_cons_succ, List.setIfInBounds_toArray, List.set_cons_zero, List.set_cons_succ]
              refine wpAnyH_take (i := 18) (v := .bool false) rfl (by kernel_rfl) (by kernel_rfl) (by kernel_rfl) (fun _ _ _ h => h) (Or.inl ⟨by rfl, fun w_ hS_ => by (first | (go_simp; done) | (go_simp; rfl))⟩) ⟨(rowAt Zb), (rowMid Zl (2) (Ld.ballot L)), (rowAt Za), (rowCell Zl (0) rfl), (rowCell Zl (4) rfl)⟩ ?_
              try simp only [Act.put, List.getElem_toArray, List.getElem_cons_zero, List.getElem_cons_succ, List.setIfInBounds_toArray, List.set_cons_zero, List.set_cons_succ]
              refine wpAnyH_take (i := 19) (v := .bool false) rfl (by kernel_rfl) (by kernel_rfl) (by kernel_rfl) (fun _ _ _ h => h) (Or.inl ⟨by rfl, fun w_ hS_ => by (first | (go_simp; done) | (go_simp; rfl))⟩) ⟨(rowAt Zb), (rowMid Zl (2) (Ld.ballot L)), (rowAt Za), (rowCell Zl (0) rfl), (rowCell Zl (4) rfl)⟩ ?_
              try simp only [Act.put, List.getElem_toArray, List.getElem_cons_zero, List.getElem_cons_succ, List.setIfInBounds_toArray, List.set_cons_zero, List.set_cons_succ]
              refine wpAnyH_take (i := 20) (v := .bool false) rfl (by kernel_rfl) (by kernel_rfl) (by kernel_rfl) (fun _ _ _ h => h) (Or.inl ⟨by rfl, fun w_ hS_ => by (first | (go_simp; done) | (go_simp; rfl))⟩) ⟨(rowAt Zb), (rowMid Zl (2) (Ld.ballot L)), (rowAt Za), (rowCell Zl (0) rfl), (rowCell Zl (4) rfl)⟩ ?_
              try simp only [Act.put, List.getElem_toArray, List.getElem_cons_zero, List.getElem_cons_succ, List.setIfInBounds_toArray, List.set_cons_zero, List.set_cons_succ]
              refine wpAnyH_take (i := 21) (v := .int .i64 k) rfl (by kernel_rfl) (by kernel_rfl) (by kernel_rfl) (fun _ _ _ h => h) (Or.inl ⟨by rfl, fun w_ hS_ => by (first | (go_simp; done) | (go_simp; rfl))⟩) ⟨(rowAt Zb), (rowMid Zl (2) (Ld.ballot L)), (rowAt Za), (rowCell Zl (0) rfl), (rowCell Zl (4) rfl)⟩ ?_
              try simp only [Act.put, List.getElem_toArray, List.getElem_cons_zero, List.getElem_cons_succ, List.setIfInBounds_toArray, List.set_cons_zero, List.set_cons_succ]
              refine wpAnyH_take (i := 22) (v := .bool false) rfl (by kernel_rfl) (by kernel_rfl) (by kernel_rfl) (fun _ _ _ h => h) (Or.inl ⟨by rfl, fun w_ hS_ => by (first | (go_simp; done) | (go_simp; rfl))⟩) ⟨(rowAt Zb), (rowMid Zl (2) (Ld.ballot L)), (rowAt Za), (rowCell Zl (0) rfl), (rowCell Zl (4) rfl)⟩ ?_
              try simp only [Act.put, List.getElem_toArray, List.getElem_cons_zero, List.getElem_cons_succ, List.setIfInBounds_toArray, List.set_cons_zero, List.set_cons_succ]
              refine wpAnyH_take (i := 23) (v := .bool false) rfl (by kernel_rfl) (by kernel_rfl) (by kernel_rfl) (fun _ _ _ h => h) (Or.inl ⟨by rfl, fun w_ hS_ => by (first | (go_simp; done) | (go_simp; rfl))⟩) ⟨(rowAt Zb), (rowMid Zl (2) (Ld.ballot L)), (rowAt Za), (rowCell Zl (0) rfl), (rowCell Zl (4) rfl)⟩ ?_
              try simp only [Act.put, List.getElem_toArray, List.getElem_cons_zero, List.getElem_cons_succ, List.setIfInBounds_toArray, List.set_cons_zero, List.set_cons_succ]
              refine wpAnyH_take (i := 24) (v := .bool false) rfl (by kernel_rfl) (by kernel_rfl) (by kernel_rfl) (fun _ _ _ h => h) (Or.inl ⟨by rfl, fun w_ hS_ => by (first | (go_simp; done) | (go_simp; rfl))⟩) ⟨(rowAt Zb), (rowMid Zl (2) (Ld.ballot L)), (rowAt Za), (rowCell Zl (0) rfl), (rowCell Zl (4) rfl)⟩ ?_
              try simp only [Act.put, List.getElem_toArray, List.getElem_cons_zero, List.getElem_cons_succ, List.setIfInBounds_toArray, List.set_cons_zero, List.set_cons_succ]
              refine wpAnyH_take (i := 25) (v := .int .i64 k) rfl (by kernel_rfl) (by kernel_rfl) (by kernel_rfl) (fun _ _ _ h => h) (Or.inl ⟨by rfl, fun w_ hS_ => by (first | (go_simp; done) | (go_simp; rfl))⟩) ⟨(rowAt Zb), (rowMid Zl (2) (Ld.ballot L)), (rowAt Za), (rowCell Zl (0) rfl), (rowCell Zl (4) rfl)⟩ ?_
              try simp only [Act.put, List.getElem_toArray, List.getElem_cons_zero, List.getElem_cons_succ, List.setIfInBounds_toArray, List.set_cons_zero, List.set_cons_succ]
              refine wpAnyH_take (i := 26) (v := .pointer (some ⟨h, 0, none⟩)) rfl (by kernel_rfl) (by kernel_rfl) (by kernel_rfl) (fun _ _ _ h => h) (Or.inl ⟨by rfl, fun w_ hS_ => by (first | (go_simp; done) | (go_simp; rfl))⟩) ⟨(rowAt Zb), (rowMid Zl (2) (Ld.ballot L)), (rowAt Za), (rowCell Zl (0) rfl), (rowCell Zl (4) rfl)⟩ ?_
              try simp only [Act.put, List.getElem_toArray, List.getElem_cons_zero, List.getElem_cons_succ, List.setIfInBounds_toArray, List.set_cons_zero, List.set_cons_succ]
              refine wpAnyH_take (i := 27) (v := .pointer (some ⟨h, 0, none⟩)) rfl (by kernel_rfl) (by kernel_rfl) (by kernel_rfl) (fun _ _ _ h => h) (Or.inl ⟨by rfl, fun w_ hS_ => by (first | (go_simp; done) | (go_simp; rfl))⟩) ⟨(rowAt Zb), (rowMid Zl (2) (Ld.ballot L)), (rowAt Za), (rowCell Zl (0) rfl), (rowCell Zl (4) rfl)⟩ ?_
              try simp only [Act.put, List.getElem_toArray, List.getElem_cons_zero, List.getElem_cons_succ, List.setIfInBounds_toArray, List.set_cons_zero, List.set_cons_succ]
              refine wpAnyH_take (i := 28) (v := .pointer (some ⟨h, 0, none⟩)) rfl (by kernel_rfl) (by kernel_rfl) (by kernel_rfl) (fun _ _ _ h => h) (Or.inl ⟨by rfl, fun w_ hS_ => by (first | (go_simp; done) | (go_simp; rfl))⟩) ⟨(rowAt Zb), (rowMid Zl (2) (Ld.ballot L)), (rowAt Za), (rowCell Zl (0) rfl), (rowCell Zl (4) rfl)⟩ ?_
              try simp only [Act.put, List.getElem_toArray, List.getElem_cons_zero, List.getElem_cons_succ, List.setIfInBounds_toArray, List.set_cons_zero, List.set_cons_succ]
              refine wpAnyH_take (i := 29) (v := .int .i64 L.n) rfl (by kernel_rfl) (by kernel_rfl) (by kernel_rfl) (fun _ _ _ h => h) (Or.inl ⟨by rfl, fun w_ hS_ => by (have c_ := hS_.2.2.2.1; first | (go_simp; done) | (go_simp; rfl))⟩) ⟨(rowAt Zb), (rowMid Zl (2) (Ld.ballot L)), (rowAt Za), (rowCell Zl (0) rfl), (rowCell Zl (4) rfl)⟩ ?_
              try simp only [Act.put, List.getElem_toArray, List.getElem_cons_zero, List.getElem_cons_succ, List.setIfInBounds_toArray, List.set_cons_zero, List.set_cons_succ]
              refine wpAnyH_take (i := 30) (v := .bool false) rfl (by kernel_rfl) (by kernel_rfl) (by kernel_rfl) (fun _ _ _ h => h) (Or.inl ⟨by rfl, fun w_ hS_ => by (first | (go_simp; done) | (go_simp; rfl))⟩) ⟨(rowAt Zb), (rowMid Zl (2) (Ld.ballot L)), (rowAt Za), (rowCell Zl (0) rfl), (rowCell Zl (4) rfl)⟩ ?_
              try simp only [Act.put, List.getElem_toArray, List.getElem_cons_zero, List.getElem_cons_succ, List.setIfInBounds_toArray, List.set_cons_zero, List.set_cons_succ]
              refine wpAnyH_take (i := 31) (v := .bool false) rfl (by kernel_rfl) (by kernel_rfl) (by kernel_rfl) (fun _ _ _ h => h) (Or.inl ⟨by rfl, fun w_ hS_ => by (first | (go_simp; done) | (go_simp; rfl))⟩) ⟨(rowAt Zb), (rowMid Zl (2) (Ld.ballot L)), (rowAt Za), (rowCell Zl (0) rfl), (rowCell Zl (4) rfl)⟩ ?_
              try simp only [Act.put, List.getElem_toArray, List.getElem_cons_zero, List.getElem_cons_succ, List.setIfInBounds_toArray, List.set_cons_zero, List.set_cons_succ]
              refine wpAnyH_take (i := 32) (v := .bool false) rfl (by kernel_rfl) (by kernel_rfl) (by kernel_rfl) (fun _ _ _ h => h) (Or.inl ⟨by rfl, fun w_ hS_ => by (first | (go_simp; done) | (go_simp; rfl))⟩) ⟨(rowAt Zb), (rowMid Zl (2) (Ld.ballot L)), (rowAt Za), (rowCell Zl (0) rfl), (rowCell Zl (4) rfl)⟩ ?_
              try simp only [Act.put, List.getElem_toArray, List.getElem_cons_zero, List.getElem_cons_succ, List.setIfInBounds_toArray, List.set_cons_zero, List.set_cons_succ]
              refine wpAnyH_take (i := 33) (v := .pointer (some ⟨h, 0, none⟩)) rfl (by kernel_rfl) (by kernel_rfl) (by kernel_rfl) (fun _ _ _ h => h) (Or.inl ⟨by rfl, fun w_ hS_ => by (first | (go_simp; done) | (go_simp; rfl))⟩) ⟨(rowAt Zb), (rowMid Zl (2) (Ld.ballot L)), (rowAt Za), (rowCell Zl (0) rfl), (rowCell Zl (4) rfl)⟩ ?_
              try simp only [Act.put, List.getElem_toArray, List.getElem_cons_zero, List.getElem_cons_succ, List.setIfInBounds_toArray, List.set_cons_zero, List.set_cons_succ]
              refine wpAnyH_take (i := 34) (v := .pointer (some ⟨h, 0, none⟩)) rfl (by kernel_rfl) (by kernel_rfl) (by kernel_rfl) (fun _ _ _ h => h) (Or.inl ⟨by rfl, fun w_ hS_ => by (first | (go_simp; done) | (go_simp; rfl))⟩) ⟨(rowAt Zb), (rowMid Zl (2) (Ld.ballot L)), (rowAt Za), (rowCell Zl (0) rfl), (rowCell Zl (4) rfl)⟩ ?_
              try simp only [Act.put, List.getElem_toArray, List.getElem_cons_zero, List.getElem_cons_succ, List.setIfInBounds_toArray, List.set_cons_zero, List.set_cons_succ]
              refine wpAnyH_take (i := 35) (v := .pointer (some ⟨h, 4, none⟩)) rfl (by kernel_rfl) (by kernel_rfl) (by kernel_rfl) (fun _ _ _ h => h) (Or.inl ⟨by rfl, fun w_ hS_ => by (first | (go_simp; done) | (go_simp; rfl))⟩) ⟨(rowAt Zb), (rowMid Zl (2) (Ld.ballot L)), (rowAt Za), (rowCell Zl (0) rfl), (rowCell Zl (4) rfl)⟩ ?_
              try simp only [Act.put, List.getElem_toArray, List.getElem_cons_zero, List.getElem_cons_succ, List.setIfInBounds_toArray, List.set_cons_zero, List.set_cons_succ]
              refine wpAnyH_take (i := 36) (v := .int .u64 ((L.pr : Int))) rfl (by kernel_rfl) (by kernel_rfl) (by kernel_rfl) (fun _ _ _ h => h) (Or.inl ⟨by rfl, fun w_ hS_ => by (have c_ := hS_.2.2.2.2; first | (go_simp; done) | (go_simp; rfl))⟩) ⟨(rowAt Zb), (rowMid Zl (2) (Ld.ballot L)), (rowAt Za), (rowCell Zl (0) rfl), (rowCell Zl (4) rfl)⟩ ?_
              try simp only [Act.put, List.getElem_toArray, List.getElem_cons_zero, List.getElem_cons_succ, List.setIfInBounds_toArray, List.set_cons_zero, List.set_cons_succ]
              refine wpAnyH_take (i := 37) (v := .int .i64 k) rfl (by kernel_rfl) (by kernel_rfl) (by kernel_rfl) (fun _ _ _ h => h) (Or.inl ⟨by rfl, fun w_ hS_ => by (first | (go_simp; done) | (go_simp; rfl))⟩) ⟨(rowAt Zb), (rowMid Zl (2) (Ld.ballot L)), (rowAt Za), (rowCell Zl (0) rfl), (rowCell Zl (4) rfl)⟩ ?_
              try simp only [Act.put, List.getElem_toArray, List.getElem_cons_zero, List.getElem_cons_succ, List.setIfInBounds_toArray, List.set_cons_zero, List.set_cons_succ]
              refine wpAnyH_ready (rs := [38]) (by kernel_rfl) (by simp) ?_
              refine AllReadyH.cons rfl (fun K hK => ?_) AllReadyH.nil
              rw [if_pos (by rfl)]
              go_simp
              go_wp2_with (go_at_call 80; refine (HHA.out z2).mono ?_; rintro e z3 ⟨rfl, hw_⟩; rw [← hw_]; clear hw_ z3)
              refine hK.out _ _ ⟨(rowAt Zb), (rowMid Zl (2) (Ld.ballot L)), (rowAt Za), (rowCell Zl (0) rfl), (rowCell Zl (4) rfl)⟩ (fun hH => ?_)
              clear hK K hH
              try simp only [Act.put, List.getElem_toArray, List.getElem_cons_zero, List.getElem_cons_succ, List.setIfInBounds_toArray, List.set_cons_zero, List.set_cons_succ]
              refine wpAnyH_take (i := 39) (v := .bool true) rfl (by kernel_rfl) (by kernel_rfl) (by kernel_rfl) (fun _ _ _ h => h) (Or.inl ⟨by rfl, fun w_ hS_ => by (first | (go_simp; done) | (go_simp; rfl))⟩) ⟨(rowAt Zb), (rowMid Zl (2) (Ld.ballot L)), (rowAt Za), (rowCell Zl (0) rfl), (rowCell Zl (4) rfl)⟩ ?_
              try simp only [Act.put, List.getElem_toArray, List.getElem_cons_zero, List.getElem_cons_succ, List.setIfInBounds_toArray, List.set_cons_zero, List.set_cons_succ]
              refine wpAnyH_done (by kernel_rfl) ?_ _
              clear HHA HFO hI hJ h4 h5 HE1
              go_wp2_with fail
              go_ret
              exact ⟨rfl, ee⟩
            | false =>
              exact absurd HNO.out (by have h1 := HE1.out; clear HNO HE1; revert h1; cases e1 <;> simp)
/-- the program's leader -/
structure LdK (w : World) (B h t : Nat) (L : Ld) : Prop where
  blk : LdAt w h L
  hB : B ≤ h
  row : w.ownsRow B 39 16 (rowv L) L.l.length (acCells L.l)
  len : L.l.length ≤ t
  cl : ∀ a ∈ L.l, CmOk w B a.c
  cx : CmOk w B L.x
  pr : L.pr < 18446744073709551616
  vt : L.vt < 18446744073709551616
  sr : 0 ≤ L.sl ∧ L.sl ≤ 1000000
  b4 : L.br < 4294967296
  f0 : 0 ≤ L.fs
def LF (h : Nat) (L : Ld) (b : Nat) : Prop := b = h ∨ (rowv L).ownBlock = some b
theorem LdK.lt {w : World} {B h t : Nat} {L : Ld} (k : LdK w B h t L) : h < w.heap.size := (Array.getElem?_eq_some_iff.1 k.blk).1
theorem LdK.below {w w' : World} {B h t : Nat} {L : Ld} (k : LdK w B h t L) (p : Below w.heap.size w w') : LdK w' B h t L :=
  have hB : B ≤ w.heap.size := by have := k.lt; have := k.hB; omega
  ⟨hpB k.blk p, k.hB, ownBelow k.row p, k.len, fun a ha => (k.cl a ha).below p hB, k.cx.below p hB, k.pr, k.vt, k.sr, k.b4, k.f0⟩
theorem LdK.more {w : World} {B h t : Nat} {L : Ld} (k : LdK w B h t L) : LdK w B h (t + 1) L := ⟨k.blk, k.hB, k.row, by have := k.len; omega, k.cl, k.cx, k.pr, k.vt, k.sr, k.b4, k.f0⟩
/-- the reference moves: the program's leader stands -/
theorem LdK.other {w w' : World} {B h t B2 r t2 : Nat} {L : Ld} {R : Rl} (k : LdK w B h t L) (q : RlAt w B2 r t2 R) (f : OgF w w' (RF r R)) (p : Below B w w') : LdK w' B h t L :=
  ⟨q.heap f k.blk (by decide) (by decide) (by decide), k.hB, q.own f k.row (by decide) (by decide) (by decide), k.len, fun a ha => (k.cl a ha).below p (Nat.le_refl _), k.cx.below p (Nat.le_refl _), k.pr, k.vt, k.sr, k.b4, k.f0⟩
theorem RlAt.moved {w w' : World} {B h t r t2 : Nat} {L : Ld} {R : Rl} (q : RlAt w B r t2 R) (k : LdK w B h t L) (f : OgF w w' (LF h L)) (p : Below B w w') : RlAt w' B r t2 R := q.other f p k.blk k.row
/-- blocks of other kinds stand -/
def KeepT (w w' : World) : Prop := ∀ (k : Nat) (cs : Array Value) (ty : TypeId) (m : Nat × Nat), w.heap[k]? = some (.cells cs ty m) → ty ≠ 39 → ty ≠ 144 → ty ≠ 150 → ty ≠ 3 → ty ≠ 43 → w'.heap[k]? = some (.cells cs ty m)
theorem KeepT.refl (w : World) : KeepT w w := fun _ _ _ _ h _ _ _ _ _ => h
theorem KeepT.trans {a b c : World} (p : KeepT a b) (q : KeepT b c) : KeepT a c := fun k cs ty m h h1 h2 h3 h4 h5 => q k cs ty m (p k cs ty m h h1 h2 h3 h4 h5) h1 h2 h3 h4 h5
theorem KeepT.below {a b c : World} (p : KeepT a b) (q : Below b.heap.size b c) : KeepT a c := fun k cs ty m h h1 h2 h3 h4 h5 => hpB (p k cs ty m h h1 h2 h3 h4 h5) q
theorem LdK.keepT {w w' : World} {B h t : Nat} {L : Ld} (k : LdK w B h t L) (f : OgF w w' (LF h L)) : KeepT w w' := fun j cs ty m hz h1 h2 h3 h4 h5 => f.heap hz fun q => by
  rcases q with q | q
  · subst q; have := k.blk; unfold LdAt at this; rw [hz] at this; injection this with q; injection q with _ q; exact h2 q
  · exact ogKind k.row hz h1 q
theorem RlAt.keepT {w w' : World} {B r t : Nat} {R : Rl} (h : RlAt w B r t R) (f : OgF w w' (RF r R)) : KeepT w w' := fun j cs ty m hz h1 h2 h3 h4 h5 => h.heap f hz h3 h4 h5
/-- the ballot doesn't fall -/
def NLs (L L' : Ld) : Prop := B.less L'.br L'.bn L.br L.bn = false
theorem NLs.same {L L' : Ld} (h1 : L'.br = L.br) (h2 : L'.bn = L.bn) : NLs L L' := by unfold NLs; rw [h1, h2]; exact B.less_self _ _
/-- what an act leaves as it was -/
def LKeep (L L' : Ld) : Prop := L'.br = L.br ∧ L'.bn = L.bn ∧ (L.sl ≠ 0 → L'.sl = L.sl ∧ L'.x = L.x)
theorem LKeep.refl (L : Ld) : LKeep L L := ⟨rfl, rfl, fun _ => ⟨rfl, rfl⟩⟩
theorem LdK.frame {w w' : World} {B h t : Nat} {L : Ld} (k : LdK w B h t L) (g : w.grownBy w' (some h)) : OgF w w' (LF h L) ∧ Below B w w' :=
  have f : OgF w w' (LF h L) := ogGrown (OgF.refl _ _) g (.inl (.inl rfl))
  ⟨f, OgF.toBelow (w := w) (z := w') (P := fun b => b = h) ((ogGrown (OgF.refl _ _) g (.inl rfl))) (fun i hi => by rw [hi]; exact k.hB) (by have := k.lt; have := k.hB; omega)⟩
theorem LdK.rowG {w w' : World} {B h t : Nat} {L : Ld} (k : LdK w B h t L) (g : w.grownBy w' (some h)) : w'.ownsRow B 39 16 (rowv L) L.l.length (acCells L.l) := k.row.kept g (Or.inr (lgKind k.row k.blk (by decide)))
theorem B.next_ok {r : Nat} {n k : Int} (h : (B.next r n k).2.2 = 0) : B.next r n k = (r + 1, k, 0) := by
  unfold B.next at h ⊢
  by_cases c1 : k < 0 ∨ 5 ≤ k
  · rw [if_pos c1] at h; exact absurd h (by decide)
  · rw [if_neg c1] at h ⊢
    by_cases c2 : r = 4294967295
    · rw [if_pos c2] at h; exact absurd h (by decide)
    · rw [if_neg c2]
theorem nx_lt (L : Ld) (r : Nat) (n : Int) (hr : r < 4294967296) (hb : L.br < 4294967296) : (L.start r n).br < 4294967296 := by
  unfold Ld.start
  cases decide ((L.nx r n).2.2 = 0) with
  | false => exact hb
  | true => exact B.next_lt (B.most2_lt hr hb)
theorem nx_keeps (L : Ld) (r : Nat) (n : Int) : NLs L (L.start r n) := by
  unfold Ld.start
  have hm := B.most_ge [(r, n), (L.br, L.bn)] (L.br, L.bn) (by simp)
  cases h : decide ((L.nx r n).2.2 = 0) with
  | false => exact B.less_self _ _
  | true =>
    have h0 := of_decide_eq_true h
    have e : L.nx r n = ((B.most [(r, n), (L.br, L.bn)]).1 + 1, L.nd, 0) := B.next_ok h0
    show B.less (L.nx r n).1 (L.nx r n).2.1 L.br L.bn = false
    rw [e]
    clear e h0 h
    generalize B.most [(r, n), (L.br, L.bn)] = m at hm ⊢
    have hm2 : ¬ (m.1 < L.br) := fun q => by have := (B.less_iff m (L.br, L.bn)).2 (.inl q); rw [hm] at this; cases this
    cases hq : B.less (m.1 + 1) L.nd L.br L.bn with
    | false => rfl
    | true =>
      rcases (B.less_iff (m.1 + 1, L.nd) (L.br, L.bn)).1 hq with q | q
      · have q : m.1 + 1 < L.br := q; omega
      · have q : m.1 + 1 = L.br := q.1; omega
theorem kstart (w : World) (B h t : Nat) (L : Ld) (r : Nat) (n : Int) (hr : r < 4294967296) (k : LdK w B h t L) :
    Calls Tryd.prog 35 #[.pointer (some ⟨h, 0, none⟩), bal r n] w fun e w' => (∃ (a : Nat) (b c : Int), e = .returned (.tuple #[bal a b, .int .i64 c])) ∧ (∃ L', LdK w' B h (t + 1) L' ∧ NLs L L') ∧ OgF w w' (LF h L) ∧ Below B w w' := by
  refine (lstart w h L r n hr k.b4 k.blk).mono fun e w' q => ?_
  obtain ⟨q1, q2, q3⟩ := q
  obtain ⟨f, p⟩ := k.frame q3
  have n1 := nx_keeps L r n
  refine ⟨⟨_, _, _, q1⟩, ⟨L.start r n, ?_, n1⟩, f, p⟩
  have h4 := nx_lt L r n hr k.b4
  revert q2 h4
  unfold Ld.start
  cases decide ((L.nx r n).2.2 = 0) with
  | false => exact fun q2 h4 => ⟨q2, k.hB, k.rowG q3, by have := k.len; show L.l.length ≤ _; omega, fun a ha => (k.cl a ha).below p (Nat.le_refl _), k.cx.below p (Nat.le_refl _), k.pr, k.vt, k.sr, h4, k.f0⟩
  | true => exact fun q2 h4 => ⟨q2, k.hB, World.ownsRow_nil _ _ _ _, Nat.zero_le _, (fun a ha => by cases ha), CmOk.zero, (by decide : 0 < 18446744073709551616), (by decide : 0 < 18446744073709551616), ⟨Int.le_refl _, (by decide : (0 : Int) ≤ 1000000)⟩, h4, Int.le_refl _⟩
theorem kdone (w : World) (B h t : Nat) (L : Ld) (k : LdK w B h t L) :
    Calls Tryd.prog 39 #[.pointer (some ⟨h, 0, none⟩)] w fun e w' => RetB e ∧ (∃ L', LdK w' B h (t + 1) L' ∧ L'.br = L.br ∧ L'.bn = L.bn) ∧ OgF w w' (LF h L) ∧ Below B w w' := by
  refine (ldone w h L k.blk k.vt k.sr.1 k.sr.2).mono fun e w' q => ?_
  obtain ⟨q1, q2, q3⟩ := q
  obtain ⟨f, p⟩ := k.frame q3
  refine ⟨RetB.of q1, ⟨L.done, ?_, ?_⟩, f, p⟩
  · revert q2
    unfold Ld.done
    cases L.dones with
    | false => exact fun q2 => ⟨q2, k.hB, k.rowG q3, by have := k.len; show L.l.length ≤ _; omega, fun a ha => (k.cl a ha).below p (Nat.le_refl _), k.cx.below p (Nat.le_refl _), k.pr, k.vt, k.sr, k.b4, k.f0⟩
    | true => exact fun q2 => ⟨q2, k.hB, World.ownsRow_nil _ _ _ _, Nat.zero_le _, (fun a ha => by cases ha), CmOk.zero, k.pr, k.vt, ⟨Int.le_refl _, (by decide : (0 : Int) ≤ 1000000)⟩, k.b4, by have := k.sr; show (0 : Int) ≤ L.sl + 1; omega⟩
  · unfold Ld.done
    cases L.dones <;> exact ⟨rfl, rfl⟩
theorem kvote (w : World) (B h t : Nat) (L : Ld) (k : Int) (r : Nat) (n s : Int) (hk : LdK w B h t L) :
    Calls Tryd.prog 38 #[.pointer (some ⟨h, 0, none⟩), .int .i64 k, bal r n, .int .i64 s] w fun e w' => RetB e ∧ (∃ L', LdK w' B h (t + 1) L' ∧ LKeep L L') ∧ OgF w w' (LF h L) ∧ Below B w w' := by
  cases hf : L.votes k r n s with
  | false =>
    refine (lvote_no w h L k r n s hk.blk hk.vt hf).mono fun e w' q => ?_
    obtain ⟨f, p⟩ := hk.frame (lgB2 q.2 (Nat.le_refl _))
    exact ⟨RetB.of q.1, ⟨L, (hk.below q.2).more, LKeep.refl L⟩, f, p⟩
  | true =>
    refine (lvote_yes w h L k r n s hk.blk hk.vt hf).mono fun e w' q => ?_
    obtain ⟨q1, q2, q3⟩ := q
    obtain ⟨f, p⟩ := hk.frame q3
    have e : L.vote k r n s = { L with vt := Q.addN L.vt k } := by unfold Ld.vote; rw [hf]; rfl
    rw [e] at q2
    exact ⟨RetB.of q1, ⟨_, ⟨q2, hk.hB, hk.rowG q3, by have := hk.len; show L.l.length ≤ _; omega, fun a ha => (hk.cl a ha).below p (Nat.le_refl _), hk.cx.below p (Nat.le_refl _), hk.pr, Q.add_lt _ _ hk.vt, hk.sr, hk.b4, hk.f0⟩, rfl, rfl, fun _ => ⟨rfl, rfl⟩⟩, f, p⟩
theorem kpromise (w : World) (B h t : Nat) (L : Ld) (k : Int) (r : Nat) (n : Int) (a : Ac) (hk : LdK w B h t L) (ht : t ≤ 1000) (ok : CmOk w B a.c) (hT : Tabs w) :
    Calls Tryd.prog 36 #[.pointer (some ⟨h, 0, none⟩), .int .i64 k, bal r n, .agg a.cells.toArray] w fun e w' => RetB e ∧ (∃ L', LdK w' B h (t + 1) L' ∧ LKeep L L') ∧ OgF w w' (LF h L) ∧ Below B w w' := by
  have hB : B ≤ w.heap.size := by have := hk.lt; have := hk.hB; omega
  have hl := hk.len
  cases hf : L.promises k r n a with
  | false =>
    refine (lpromise_no w h L k r n a hk.blk hk.pr (ok.more hB) hT hf).mono fun e w' q => ?_
    obtain ⟨f, p⟩ := hk.frame (lgB2 q.2 (Nat.le_refl _))
    exact ⟨RetB.of q.1, ⟨L, (hk.below q.2).more, LKeep.refl L⟩, f, p⟩
  | true =>
    unfold Ld.promises at hf
    simp only [Bool.and_eq_true, Bool.not_eq_true', decide_eq_true_eq, decide_eq_false_iff_not] at hf
    obtain ⟨⟨⟨⟨⟨⟨rfl, rfl⟩, g2⟩, g3⟩, g4⟩, g5⟩, g6⟩ := hf
    refine (lpromise_w w B h L k a hk.blk hk.row hB (by omega) hk.pr g2 g3 (ok.more hB) hT g4 g5 g6).mono fun e w' q => ?_
    obtain ⟨q1, A', c', q2, q3, q4, q5⟩ := q
    have f : OgF w w' (LF h L) := ⟨q5.1, q5.2⟩
    have p : Below B w w' := OgF.toBelow f (fun i hi => by
      rcases hi with hi | hi
      · rw [hi]; exact hk.hB
      · exact (hk.row.lt i hi).1) hB
    refine ⟨RetB.of q1, ⟨_, ⟨q2, hk.hB, q3, by show (L.l ++ [a]).length ≤ _; rw [List.length_append, List.length_singleton]; omega, fun b hb => ?_, hk.cx.below p (Nat.le_refl _), Q.add_lt _ _ hk.pr, hk.vt, hk.sr, hk.b4, by have := hk.f0; show (0 : Int) ≤ max L.fs a.sl; omega⟩, rfl, rfl, fun _ => ⟨rfl, rfl⟩⟩, f, p⟩
    rcases List.mem_append.1 hb with q | q
    · exact (hk.cl b q).below p (Nat.le_refl _)
    · rw [List.mem_singleton] at q; subst q; exact ok.below p (Nat.le_refl _)
theorem whatOk {w : World} {B : Nat} {L : Ld} (hc : ∀ a ∈ L.l, CmOk w B a.c) (s : Int) {x : Cm} (hx : CmOk w B x) : CmOk w B (L.what s x) := by
  unfold Ld.what
  cases (best (topOf L.l) L.l).ha && decide (s = L.fs) with
  | false => exact hx
  | true => exact bestOkB w B L.l hc _ _ CmOk.zero
theorem kpropose (w : World) (B h t : Nat) (L : Ld) (s : Int) (x : Cm) (hk : LdK w B h t L) (ht : t ≤ 1000) (ok : CmOk w B x) (hT : Tabs w) :
    Calls Tryd.prog 37 #[.pointer (some ⟨h, 0, none⟩), .int .i64 s, .agg x.cells.toArray] w fun e w' => RetCB w' B e ∧ (∃ L', LdK w' B h (t + 1) L' ∧ LKeep L L') ∧ OgF w w' (LF h L) ∧ Below B w w' := by
  have hB : B ≤ w.heap.size := by have := hk.lt; have := hk.hB; omega
  have hl := hk.len
  cases hpr : L.proposes s x with
  | false =>
    refine (lpropose_no w h L s x hk.blk hk.pr (ok.more hB) hT hpr).mono fun e w' q => ?_
    obtain ⟨f, p⟩ := hk.frame (lgB2 q.2 (Nat.le_refl _))
    exact ⟨RetCB.of _ _ CmOk.zero q.1, ⟨L, (hk.below q.2).more, LKeep.refl L⟩, f, p⟩
  | true =>
    unfold Ld.proposes at hpr
    simp only [Bool.and_eq_true, Bool.not_eq_true', decide_eq_false_iff_not] at hpr
    obtain ⟨⟨⟨⟨q1, q2⟩, q3⟩, q4⟩, q5⟩ := hpr
    have hs0 : L.sl = 0 := by have := hk.sr.1; omega
    have hR : ∀ z, w.grownBy z (some h) → RowsAt z z.heap.size L.A 16 (L.l.map Ac.cells) := fun z hz => (acRows (hk.rowG hz)).2
    refine (lpropose_yes w h L s x hk.blk hR (by omega) (acRows hk.row).1 hk.pr q1 hs0 (by omega) (by omega) (ok.more hB) q5 hT).mono fun e w' q => ?_
    obtain ⟨r1, r2, r3⟩ := q
    obtain ⟨f, p⟩ := hk.frame r3
    have hw := whatOk hk.cl s ok
    have hfs : 0 ≤ s := by have := hk.f0; omega
    exact ⟨RetCB.of _ _ (hw.below p (Nat.le_refl _)) r1, ⟨_, ⟨r2, hk.hB, hk.rowG r3, by show L.l.length ≤ _; omega, fun a ha => (hk.cl a ha).below p (Nat.le_refl _), hw.below p (Nat.le_refl _), hk.pr, (by decide : 0 < 18446744073709551616), ⟨hfs, by show s ≤ _; omega⟩, hk.b4, hk.f0⟩, rfl, rfl, fun q => absurd hs0 q⟩, f, p⟩
end Go.Proofs.YtbahooohkigcnaaDoor
