/- A leader as one value, and the contracts of New and of the methods that only read. Conditions: what lies, lies below; the tables lie. (Printed by gen_lead.py.) -/
import Derived.Test.YtbahooohkigcnaaDoorAccM
import Derived.Test.YtbahooohkigcnaaDoorQuorN
import Derived.Test.YtbahooohkigcnaaDoorBalN
import Derived.Deep.QuietTactic
import Derived.BigQuiet
namespace Go.Proofs.YtbahooohkigcnaaDoor
set_option maxRecDepth 20000
open Go.RowKit T
set_option linter.unusedSimpArgs false
set_option linter.unusedVariables false

namespace T
/-- a leader -/
structure Ld where
  n : Int
  nd : Int
  br : Nat
  bn : Int
  pr : Nat
  l : List Ac
  A : Option Addr
  c : Nat
  fs : Int
  sl : Int
  x : Cm
  vt : Nat
def Ld.cells (L : Ld) : List Value := [.int .i64 L.n, .int .i64 L.nd, .int .u32 (L.br : Int), .int .i64 L.bn, .int .u64 (L.pr : Int), .slice L.A L.l.length L.c, .int .i64 L.fs, .int .i64 L.sl, .int .i64 L.x.k, .int .i64 L.x.s, .int .i64 L.x.q, .slice L.x.A1 L.x.rs.length L.x.c1, .slice L.x.A2 L.x.ws.length L.x.c2, .int .i64 L.x.i, .int .i64 L.x.j, .int .i64 L.x.g, .int .u64 (L.x.st : Int), .bool L.x.y, .int .u64 (L.vt : Int)]
theorem Ld.cells_len (L : Ld) : L.cells.length = 19 := rfl
def Ld.new (n nd : Int) : Ld := ⟨n, nd, 0, 0, 0, [], none, 0, 0, 0, Cm.zero, 0⟩
end T
theorem sizeLd : (Tryd.prog.info? 144).map (·.size) = some 19 := by kernel_rfl
theorem Ld.one (L : Ld) : L.cells.toArray.all (·.oneCell') = true := by simp [Ld.cells, Value.oneCell']
theorem Ld.ballot (L : Ld) : ∀ j v, ([.int .u32 (L.br : Int), .int .i64 L.bn] : List Value)[j]? = some v → L.cells[2 + j]? = some v := fun j v h => by
  match j, h with
  | 0, h => exact h
  | 1, h => exact h
  | j + 2, h => simp at h
theorem Ld.cmd (L : Ld) : ∀ j v, L.x.cells[j]? = some v → L.cells[8 + j]? = some v := fun j v h => by
  have e : L.cells = [.int .i64 L.n, .int .i64 L.nd, .int .u32 (L.br : Int), .int .i64 L.bn, .int .u64 (L.pr : Int), .slice L.A L.l.length L.c, .int .i64 L.fs, .int .i64 L.sl] ++ (L.x.cells ++ [.int .u64 (L.vt : Int)]) := rfl
  rw [e, List.getElem?_append_right (by simp), List.getElem?_append_left (by have := (List.getElem?_eq_some_iff.1 h).1; simp; exact this)]
  simpa using h
/-- a leader lies in block h -/
def LdAt (w : World) (h : Nat) (L : Ld) : Prop := w.heap[h]? = some (.cells L.cells.toArray 144 (0, 0))
theorem Ld.leads_q (s : Nat) (n : Int) (hs : s < 18446744073709551616) (w : World) : ∀ m, Calls Tryd.prog 82 #[.int .u64 (s : Int), .int .i64 n] (w.drewN m) fun e w' => e = .returned (.bool (Q.majB s n)) ∧ ∃ r, w' = w.drewN r :=
  fun m => (maj_any s n (w.drewN m) hs).mono fun _ _ h => ⟨h.1, m, h.2.symm⟩
theorem Ld.has_q (s : Nat) (n : Int) (hs : s < 18446744073709551616) (w : World) : ∀ m, Calls Tryd.prog 80 #[.int .u64 (s : Int), .int .i64 n] (w.drewN m) fun e w' => e = .returned (.bool (Q.hasB s n)) ∧ ∃ r, w' = w.drewN r :=
  fun m => (has_any s n (w.drewN m) hs).mono fun _ _ h => ⟨h.1, m, h.2.symm⟩
def okN (n nd : Int) : Bool := decide ((n = 1 ∨ n = 3 ∨ n = 5) ∧ 0 ≤ nd ∧ nd < n)
set_option maxHeartbeats 1600000 in
theorem lnew_no (n nd : Int) (w : World) (h : okN n nd = false) : Calls Tryd.prog 34 #[.int .i64 n, .int .i64 nd] w fun e w' => e = .returned (.pointer none) ∧ w = w' := by
  have h := of_decide_eq_false h
  by_cases h1 : n = 1 ∨ n = 3 ∨ n = 5
  · by_cases h0 : nd < 0
    · have g0 : decide (nd < 0) = true := decide_eq_true h0
      rcases h1 with rfl | rfl | rfl
      all_goals
        clear h h0
        go_enter Tryd.func34, Tryd.ntmps34
        go_wp2_with fail
        go_ret
        exact ⟨rfl, rfl⟩
    · have g0 : decide (nd < 0) = false := decide_eq_false h0
      rcases h1 with rfl | rfl | rfl
      · have g1 : decide ((1 : Int) ≤ nd) = true := decide_eq_true (by omega)
        clear h h0
        go_enter Tryd.func34, Tryd.ntmps34
        go_wp2_with fail
        go_ret
        exact ⟨rfl, rfl⟩
      · have g1 : decide ((3 : Int) ≤ nd) = true := decide_eq_true (by omega)
        clear h h0
        go_enter Tryd.func34, Tryd.ntmps34
        go_wp2_with fail
        go_ret
        exact ⟨rfl, rfl⟩
      · have g1 : decide ((5 : Int) ≤ nd) = true := decide_eq_true (by omega)
        clear h h0
        go_enter Tryd.func34, Tryd.ntmps34
        go_wp2_with fail
        go_ret
        exact ⟨rfl, rfl⟩
  · have n1 : (n != 1) = true := by simp; omega
    have n3 : (n != 3) = true := by simp; omega
    have n5 : (n != 5) = true := by simp; omega
    clear h h1
    go_enter Tryd.func34, Tryd.ntmps34
    go_wp2_with fail
    go_ret
    exact ⟨rfl, rfl⟩
set_option maxHeartbeats 1600000 in
theorem lnew_ok (n nd : Int) (w : World) (h : okN n nd = true) : Calls Tryd.prog 34 #[.int .i64 n, .int .i64 nd] w fun e w' => e = .returned (.pointer (some ⟨w.heap.size, 0, none⟩)) ∧ w' = w.alloc (.cells (Ld.new n nd).cells.toArray 144) := by
  have h := of_decide_eq_true h
  have g0 : decide (nd < 0) = false := decide_eq_false (by omega)
  rcases h with ⟨rfl | rfl | rfl, h0, h1⟩
  · have g1 : decide ((1 : Int) ≤ nd) = false := decide_eq_false (by omega)
    clear h0 h1
    go_enter Tryd.func34, Tryd.ntmps34
    go_wp2_with fail
    go_ret
    exact ⟨rfl, rfl⟩
  · have g1 : decide ((3 : Int) ≤ nd) = false := decide_eq_false (by omega)
    clear h0 h1
    go_enter Tryd.func34, Tryd.ntmps34
    go_wp2_with fail
    go_ret
    exact ⟨rfl, rfl⟩
  · have g1 : decide ((5 : Int) ≤ nd) = false := decide_eq_false (by omega)
    clear h0 h1
    go_enter Tryd.func34, Tryd.ntmps34
    go_wp2_with fail
    go_ret
    exact ⟨rfl, rfl⟩
/-! ### no leader -/
section
variable (w : World)
set_option maxHeartbeats 800000 in
theorem lstop_nil : Calls Tryd.prog 46 #[.pointer none] w fun e w' => e = .returned (.tuple #[]) ∧ ∃ m, w' = w.drewN m := by
  go_enter Tryd.func46, Tryd.ntmps46
  go_wp2_with fail
  first
    | (go_ret; exact ⟨rfl, 0, rfl⟩)
    | (go_end0; exact ⟨rfl, 0, rfl⟩)
    | (go_quiet (fail); go_wp2_with fail; go_ret; exact ⟨rfl, _, rfl⟩)
set_option maxHeartbeats 800000 in
theorem lleads_nil : Calls Tryd.prog 47 #[.pointer none] w fun e w' => e = .returned (.bool false) ∧ ∃ m, w' = w.drewN m := by
  go_enter Tryd.func47, Tryd.ntmps47
  go_wp2_with fail
  first
    | (go_ret; exact ⟨rfl, 0, rfl⟩)
    | (go_end0; exact ⟨rfl, 0, rfl⟩)
    | (go_quiet (fail); go_wp2_with fail; go_ret; exact ⟨rfl, _, rfl⟩)
set_option maxHeartbeats 800000 in
theorem lfirst_nil : Calls Tryd.prog 48 #[.pointer none] w fun e w' => e = .returned (.int .i64 0) ∧ ∃ m, w' = w.drewN m := by
  go_enter Tryd.func48, Tryd.ntmps48
  go_wp2_with fail
  first
    | (go_ret; exact ⟨rfl, 0, rfl⟩)
    | (go_end0; exact ⟨rfl, 0, rfl⟩)
    | (go_quiet (fail); go_wp2_with fail; go_ret; exact ⟨rfl, _, rfl⟩)
set_option maxHeartbeats 800000 in
theorem ldone_nil : Calls Tryd.prog 39 #[.pointer none] w fun e w' => e = .returned (.bool false) ∧ ∃ m, w' = w.drewN m := by
  go_enter Tryd.func39, Tryd.ntmps39
  go_wp2_with fail
  first
    | (go_ret; exact ⟨rfl, 0, rfl⟩)
    | (go_end0; exact ⟨rfl, 0, rfl⟩)
    | (go_quiet (fail); go_wp2_with fail; go_ret; exact ⟨rfl, _, rfl⟩)
set_option maxHeartbeats 800000 in
theorem lballot_nil : Calls Tryd.prog 43 #[.pointer none] w fun e w' => e = .returned (bal 0 0) ∧ Below w.heap.size w w' := by
  go_enter Tryd.func43, Tryd.ntmps43
  go_wp2_with fail
  refine bodyPost_ret (v := .agg #[.int .u32 0, .int .i64 0]) (by simp [results, Tryd.results43, go_sem]) rfl ⟨rfl, (Below.refl _ _).alloc (Nat.le_refl _) _⟩
set_option maxHeartbeats 800000 in
theorem lstart_nil (r : Nat) (n : Int) : Calls Tryd.prog 35 #[.pointer none, bal r n] w fun e w' => e = .returned (.tuple #[bal 0 0, .int .i64 1]) ∧ Below w.heap.size w w' := by
  go_enter Tryd.func35, Tryd.ntmps35
  go_wp2_with fail
  refine bodyPost_ret (v := .tuple #[.agg #[.int .u32 0, .int .i64 0], .int .i64 1]) (by simp [results, Tryd.results35, go_sem]) rfl ⟨rfl, ((Below.refl _ _).alloc (Nat.le_refl _) _).alloc (by simp) _⟩
set_option maxHeartbeats 800000 in
theorem lproposal_nil : Calls Tryd.prog 42 #[.pointer none] w fun e w' => e = .returned (.tuple #[.int .i64 0, .agg Cm.zero.cells.toArray, .bool false]) ∧ Below w.heap.size w w' := by
  go_enter Tryd.func42, Tryd.ntmps42
  go_wp2_with fail
  refine bodyPost_ret (v := .tuple #[.int .i64 0, .agg Cm.zero.cells.toArray, .bool false]) (by simp [results, Tryd.results42, go_sem]; rfl) rfl ⟨rfl, (Below.refl _ _).alloc (Nat.le_refl _) _⟩
set_option maxHeartbeats 800000 in
theorem lvote_nil (k : Int) (r : Nat) (n s : Int) : Calls Tryd.prog 38 #[.pointer none, .int .i64 k, bal r n, .int .i64 s] w fun e w' => e = .returned (.bool false) ∧ Below w.heap.size w w' := by
  go_enter Tryd.func38, Tryd.ntmps38
  go_wp2_with fail
  go_quiet (fail)
  go_wp2_with fail
  go_ret
  exact ⟨rfl, belowDrewN ((Below.refl _ _).alloc (Nat.le_refl _) _) _⟩
set_option maxHeartbeats 800000 in
theorem lpromise_nil (k : Int) (r : Nat) (n : Int) (a : Ac) : Calls Tryd.prog 36 #[.pointer none, .int .i64 k, bal r n, .agg a.cells.toArray] w fun e w' => e = .returned (.bool false) ∧ Below w.heap.size w w' := by
  go_enter Tryd.func36, Tryd.ntmps36
  go_wp2_with fail
  go_quiet (fail)
  go_wp2_with fail
  go_ret
  exact ⟨rfl, belowDrewN (((Below.refl _ _).alloc (Nat.le_refl _) _).alloc (by simp) _) _⟩
end
theorem lleads_nilB (w : World) : Calls Tryd.prog 47 #[.pointer none] w fun e w' => e = .returned (.bool false) ∧ Below w.heap.size w w' :=
  (lleads_nil w).mono fun _ _ ⟨h, m, e⟩ => ⟨h, by rw [e]; exact belowDrewN (Below.refl _ _) m⟩
set_option maxHeartbeats 1600000 in
theorem lpropose_nil (s : Int) (x : Cm) (w : World) : Calls Tryd.prog 37 #[.pointer none, .int .i64 s, .agg x.cells.toArray] w fun e w' => e = .returned (.tuple #[.agg Cm.zero.cells.toArray, .bool false]) ∧ Below w.heap.size w w' := by
  obtain ⟨w0, hw0⟩ : ∃ w0, w0 = (w.alloc (.cells x.cells.toArray 37)).alloc (.cells #[.int .i64 0, .int .i64 0, .int .i64 0, .slice none 0 0, .slice none 0 0, .int .i64 0, .int .i64 0, .int .i64 0, .int .u64 0, .bool false] 37) := ⟨_, rfl⟩
  have ee : Below w.heap.size w w0 := by rw [hw0]; exact ((Below.refl _ _).alloc (Nat.le_refl _) _).alloc (by simp) _
  have Zx : w0.heap[w.heap.size]? = some (.cells x.cells.toArray 37) := by rw [hw0]; exact hpA (hpN _ _ rfl) _
  have Zr : w0.heap[w.heap.size + 1]? = some (.cells #[.int .i64 0, .int .i64 0, .int .i64 0, .slice none 0 0, .slice none 0 0, .int .i64 0, .int .i64 0, .int .i64 0, .int .u64 0, .bool false] 37) := by rw [hw0]; exact hpN _ _ (by simp)
  go_enter Tryd.func37, Tryd.ntmps37
  go_upto_region 1 with fail
  change Code.wp _ _ _ _ ((w.alloc (.cells x.cells.toArray 37)).alloc (.cells #[.int .i64 0, .int .i64 0, .int .i64 0, .slice none 0 0, .slice none 0 0, .int .i64 0, .int .i64 0, .int .i64 0, .int .u64 0, .bool false] 37))
  rw [← hw0]
  clear hw0
  go_wp2_with fail
  refine (lleads_nilB w0).mono ?_
  rintro e z1 ⟨rfl, t⟩
  have Zx := hpB Zx t
  have Zr := hpB Zr t
  have ee := ee.trans (t.mono ee.size)
  clear t
  go_upto_region 2 with fail
  refine wp_region_lit ?_
  iterate 27 (first | with_reducible refine isStore (ty := 37) rfl ?_ | go_step)
  refine wpList_store_row rfl 37 _ _ rfl (w.heap.size + 1) (Cm.zero.cells).toArray rfl rfl 37 _ Zr sizeCm (by rfl) (Cm.one _) ?_
  have N_ := setRow_heap z1 (w.heap.size + 1) _ (Cm.zero.cells).toArray _ _ Zr
  have ee := belowSet (cs := (Cm.zero.cells).toArray) ee Zr (by omega)
  have Zx := hpR Zx (g' := w.heap.size + 1) (by omega) (Cm.zero.cells).toArray
  clear Zr
  have Zr := N_
  clear N_
  generalize z1.setRow (w.heap.size + 1) (Cm.zero.cells).toArray = z2 at Zx Zr ee ⊢
  go_wp2_with fail
  refine bodyPost_ret (v := .tuple #[.agg Cm.zero.cells.toArray, .bool false]) (res_ct rfl rfl rfl Zr Tryd.underlying37 rfl sizeCm) rfl ⟨rfl, ee⟩
end Go.Proofs.YtbahooohkigcnaaDoor
