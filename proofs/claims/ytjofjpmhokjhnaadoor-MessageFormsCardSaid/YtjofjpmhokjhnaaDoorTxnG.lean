/- The walks of Label, the reference's Label, and of the reference's Few. Condition: what lies, lies below. (Printed by gen_label.py.) -/
import Derived.Test.YtjofjpmhokjhnaaDoorTxnE
import Derived.Test.YtjofjpmhokjhnaaDoorCodeReads
namespace Go.Proofs.YtjofjpmhokjhnaaDoor
set_option maxRecDepth 20000
open Go.RowKit T
set_option linter.unusedSimpArgs false
set_option linter.unusedVariables false

def T.label (k s q i j : Int) : Int × Int := if k = 1 then (s, q) else if k = 2 ∨ k = 3 then (i, j) else (0, 0)
set_option maxHeartbeats 3200000 in
theorem rfew8_any (s q : Int) (rs : List Rd1) (ws : List Wr1) (A1 : Option Addr) (c1 : Nat) (A2 : Option Addr) (c2 : Nat) (w : World) (B : Nat) (hB : B ≤ w.heap.size) (ok : TxOk w B rs ws A1 c1 A2 c2) :
    Calls Tryd.prog 97 #[.agg #[.int .i64 s, .int .i64 q, .slice A1 rs.length c1, .slice A2 ws.length c2]] w fun e w' => (∃ r : Bool, e = .returned (.bool r)) ∧ Below w.heap.size w w' := by
  obtain ⟨w0, hw0⟩ : ∃ w0, w0 = w.alloc (.cells #[.int .i64 s, .int .i64 q, .slice A1 rs.length c1, .slice A2 ws.length c2] 30) := ⟨_, rfl⟩
  have g0 : Below w.heap.size w w0 := by rw [hw0]; exact (Below.refl _ _).alloc (Nat.le_refl _) _
  have a2 : w0.cell? ⟨w.heap.size, 2, none⟩ = some (.slice A1 rs.length c1) := by rw [hw0]; simp
  have a3 : w0.cell? ⟨w.heap.size, 3, none⟩ = some (.slice A2 ws.length c2) := by rw [hw0]; simp
  obtain ⟨hr, hw, rc, wc, rm, wm, _, _⟩ := ok.below g0 hB
  unfold maxLen at rm wm
  obtain ⟨n1, hn1⟩ : ∃ n, n = rs.length := ⟨_, rfl⟩
  obtain ⟨n2, hn2⟩ : ∃ n, n = ws.length := ⟨_, rfl⟩
  have HN1 := Lib.hid hn1
  have HN2 := Lib.hid hn2
  rw [← hn1] at hw0 a2 rc ⊢
  rw [← hn2] at hw0 a3 wc ⊢
  clear hn1 hn2 ok
  go_enter Tryd.func97, Tryd.ntmps97
  go_upto_region 1 with fail
  rw [← hw0]
  clear hw0
  by_cases l1 : 12 < n1
  · have d1 : decide (12 < (n1 : Int)) = true := by simp; omega
    go_wp2_with fail
    go_ret
    exact ⟨⟨_, rfl⟩, g0⟩
  · have d1 : decide (12 < (n1 : Int)) = false := by simp; omega
    by_cases l2 : 12 < n2
    · have d2 : decide (12 < (n2 : Int)) = true := by simp; omega
      go_wp2_with fail
      go_ret
      exact ⟨⟨_, rfl⟩, g0⟩
    · have d2 : decide (12 < (n2 : Int)) = false := by simp; omega
      go_upto_region 4 with fail
      clear d1 d2
      go_loopw [3] (fun i wr => ∃ k : Nat, k ≤ n1 ∧ i = .int .i64 (k : Int) ∧ Hid (wr = w0)) (fun i _ => n1 - (intOf i).toNat)
      case atStart => exact ⟨0, Nat.zero_le _, rfl, rfl⟩
      case round =>
        obtain ⟨k, hk, rfl, HW⟩ := hrel
        rw [HW.out]
        clear HW
        by_cases hlt : k < n1
        · have hkl : k < rs.length := by rw [← HN1.out]; exact hlt
          obtain ⟨b, off, rfl, hb, x0, x1⟩ := hr.rd k hkl
          generalize (⟨rs[k].1.toArray⟩ : ByteArray) = xa at x0
          by_cases lx : 1000 < xa.size
          · have dx : decide (1000 < (xa.size : Int)) = true := by simp; omega
            go_wp2_with fail
            go_ret
            exact ⟨⟨_, rfl⟩, g0⟩
          · have dx : decide (1000 < (xa.size : Int)) = false := by simp; omega
            go_wp2_with fail
            go_roundw
            case rel => exact ⟨k + 1, by omega, by go_num, Lib.hid trivial⟩
            case measure => first | (simp [intOf]; done) | (simp [intOf]; omega)
        · obtain rfl : k = n1 := by omega
          go_upto_region 9 with fail
          go_loopw [4] (fun i wr => ∃ k : Nat, k ≤ n2 ∧ i = .int .i64 (k : Int) ∧ Hid (wr = w0)) (fun i _ => n2 - (intOf i).toNat)
          case atStart => exact ⟨0, Nat.zero_le _, rfl, rfl⟩
          case round =>
            obtain ⟨k, hk, rfl, HW⟩ := hrel
            rw [HW.out]
            clear HW
            by_cases hlt : k < n2
            · have hkl : k < ws.length := by rw [← HN2.out]; exact hlt
              obtain ⟨b, off, rfl, hb, x0, x1, x2, x3⟩ := hw.wr k hkl
              generalize (⟨ws[k].1.toArray⟩ : ByteArray) = xa at x0
              generalize (⟨ws[k].2.2.2.toArray⟩ : ByteArray) = xb at x3
              by_cases lx : 1000 < xa.size
              · have dx : decide (1000 < (xa.size : Int)) = true := by simp; omega
                go_wp2_with fail
                go_ret
                exact ⟨⟨_, rfl⟩, g0⟩
              · have dx : decide (1000 < (xa.size : Int)) = false := by simp; omega
                by_cases ly : 1000 < xb.size
                · have dy : decide (1000 < (xb.size : Int)) = true := by simp; omega
                  go_wp2_with fail
                  go_ret
                  exact ⟨⟨_, rfl⟩, g0⟩
                · have dy : decide (1000 < (xb.size : Int)) = false := by simp; omega
                  go_wp2_with fail
                  go_roundw
                  case rel => exact ⟨k + 1, by omega, by go_num, Lib.hid trivial⟩
                  case measure => first | (simp [intOf]; done) | (simp [intOf]; omega)
            · obtain rfl : k = n2 := by omega
              go_wp2_with fail
              go_ret
              exact ⟨⟨_, rfl⟩, g0⟩
set_option maxHeartbeats 1600000 in
theorem rfew_any (k : Int) (s q : Int) (rs : List Rd1) (ws : List Wr1) (A1 : Option Addr) (c1 : Nat) (A2 : Option Addr) (c2 : Nat) (i j g : Int) (st : Nat) (y : Bool) (w : World) (B : Nat) (hB : B ≤ w.heap.size) (ok : TxOk w B rs ws A1 c1 A2 c2) :
    Calls Tryd.prog 96 #[.agg #[.int .i64 k, .int .i64 s, .int .i64 q, .slice A1 rs.length c1, .slice A2 ws.length c2, .int .i64 i, .int .i64 j, .int .i64 g, .int .u64 (st : Int), .bool y]] w fun e w' => (∃ r : Bool, e = .returned (.bool r)) ∧ Below w.heap.size w w' := by
  have g0 : Below w.heap.size w (w.alloc (.cells #[.int .i64 k, .int .i64 s, .int .i64 q, .slice A1 rs.length c1, .slice A2 ws.length c2, .int .i64 i, .int .i64 j, .int .i64 g, .int .u64 (st : Int), .bool y] 45)) := (Below.refl _ _).alloc (Nat.le_refl _) _
  have H := Lib.hid (rfew8_any s q rs ws A1 c1 A2 c2 _ B (Nat.le_trans hB g0.size) (ok.below g0 hB))
  clear ok
  generalize rs.length = n1 at *
  generalize ws.length = n2 at *
  go_enter Tryd.func96, Tryd.ntmps96
  go_wp2_with fail
  refine H.out.mono ?_
  rintro e w1 ⟨⟨r, rfl⟩, b1⟩
  go_wp2_with fail
  go_ret
  exact ⟨⟨_, rfl⟩, g0.trans (b1.mono g0.size)⟩
set_option maxHeartbeats 1600000 in
theorem clabel_1 (s q : Int) (rs : List Rd1) (ws : List Wr1) (A1 : Option Addr) (c1 : Nat) (A2 : Option Addr) (c2 : Nat) (i j g : Int) (st : Nat) (y : Bool) (w : World) :
    Calls Tryd.prog 38 #[.agg #[.int .i64 1, .int .i64 s, .int .i64 q, .slice A1 rs.length c1, .slice A2 ws.length c2, .int .i64 i, .int .i64 j, .int .i64 g, .int .u64 (st : Int), .bool y]] w fun e w' => e = .returned (.agg #[.int .i64 s, .int .i64 q]) ∧ Below w.heap.size w w' := by
  generalize rs.length = n1
  generalize ws.length = n2
  have g0 : Below w.heap.size w (((w.alloc (.cells #[.int .i64 1, .int .i64 s, .int .i64 q, .slice A1 n1 c1, .slice A2 n2 c2, .int .i64 i, .int .i64 j, .int .i64 g, .int .u64 (st : Int), .bool y] 33)).alloc (.cells #[.int .i64 0, .int .i64 0] 26))) := ((Below.refl _ _).alloc (Nat.le_refl _) _).alloc (by simp) _
  have Z := setAt (setAt (heap_alloc_new (w.alloc (.cells #[.int .i64 1, .int .i64 s, .int .i64 q, .slice A1 n1 c1, .slice A2 n2 c2, .int .i64 i, .int .i64 j, .int .i64 g, .int .u64 (st : Int), .bool y] 33)) (.cells #[.int .i64 0, .int .i64 0] 26)) 0 (.int .i64 s)) 1 (.int .i64 q)
  have r0 := cellAt Z 0
  have r1 := cellAt Z 1
  simp at r0 r1
  go_enter Tryd.func38, Tryd.ntmps38
  go_wp2_with fail
  refine bodyPost_ret (v := .agg #[.int .i64 s, .int .i64 q]) (by simp [results, Tryd.results38, go_sem, r0, r1]) rfl ⟨rfl, ?_⟩
  exact ((Below.refl _ _).alloc (Nat.le_refl _) _).alloc (by simp) _
set_option maxHeartbeats 1600000 in
theorem clabel_2 (s q : Int) (rs : List Rd1) (ws : List Wr1) (A1 : Option Addr) (c1 : Nat) (A2 : Option Addr) (c2 : Nat) (i j g : Int) (st : Nat) (y : Bool) (w : World) :
    Calls Tryd.prog 38 #[.agg #[.int .i64 2, .int .i64 s, .int .i64 q, .slice A1 rs.length c1, .slice A2 ws.length c2, .int .i64 i, .int .i64 j, .int .i64 g, .int .u64 (st : Int), .bool y]] w fun e w' => e = .returned (.agg #[.int .i64 i, .int .i64 j]) ∧ Below w.heap.size w w' := by
  generalize rs.length = n1
  generalize ws.length = n2
  have g0 : Below w.heap.size w (((w.alloc (.cells #[.int .i64 2, .int .i64 s, .int .i64 q, .slice A1 n1 c1, .slice A2 n2 c2, .int .i64 i, .int .i64 j, .int .i64 g, .int .u64 (st : Int), .bool y] 33)).alloc (.cells #[.int .i64 0, .int .i64 0] 26))) := ((Below.refl _ _).alloc (Nat.le_refl _) _).alloc (by simp) _
  have Z := setAt (setAt (heap_alloc_new (w.alloc (.cells #[.int .i64 2, .int .i64 s, .int .i64 q, .slice A1 n1 c1, .slice A2 n2 c2, .int .i64 i, .int .i64 j, .int .i64 g, .int .u64 (st : Int), .bool y] 33)) (.cells #[.int .i64 0, .int .i64 0] 26)) 0 (.int .i64 i)) 1 (.int .i64 j)
  have r0 := cellAt Z 0
  have r1 := cellAt Z 1
  simp at r0 r1
  go_enter Tryd.func38, Tryd.ntmps38
  go_wp2_with fail
  refine bodyPost_ret (v := .agg #[.int .i64 i, .int .i64 j]) (by simp [results, Tryd.results38, go_sem, r0, r1]) rfl ⟨rfl, ?_⟩
  exact ((Below.refl _ _).alloc (Nat.le_refl _) _).alloc (by simp) _
set_option maxHeartbeats 1600000 in
theorem clabel_3 (s q : Int) (rs : List Rd1) (ws : List Wr1) (A1 : Option Addr) (c1 : Nat) (A2 : Option Addr) (c2 : Nat) (i j g : Int) (st : Nat) (y : Bool) (w : World) :
    Calls Tryd.prog 38 #[.agg #[.int .i64 3, .int .i64 s, .int .i64 q, .slice A1 rs.length c1, .slice A2 ws.length c2, .int .i64 i, .int .i64 j, .int .i64 g, .int .u64 (st : Int), .bool y]] w fun e w' => e = .returned (.agg #[.int .i64 i, .int .i64 j]) ∧ Below w.heap.size w w' := by
  generalize rs.length = n1
  generalize ws.length = n2
  have g0 : Below w.heap.size w (((w.alloc (.cells #[.int .i64 3, .int .i64 s, .int .i64 q, .slice A1 n1 c1, .slice A2 n2 c2, .int .i64 i, .int .i64 j, .int .i64 g, .int .u64 (st : Int), .bool y] 33)).alloc (.cells #[.int .i64 0, .int .i64 0] 26))) := ((Below.refl _ _).alloc (Nat.le_refl _) _).alloc (by simp) _
  have Z := setAt (setAt (heap_alloc_new (w.alloc (.cells #[.int .i64 3, .int .i64 s, .int .i64 q, .slice A1 n1 c1, .slice A2 n2 c2, .int .i64 i, .int .i64 j, .int .i64 g, .int .u64 (st : Int), .bool y] 33)) (.cells #[.int .i64 0, .int .i64 0] 26)) 0 (.int .i64 i)) 1 (.int .i64 j)
  have r0 := cellAt Z 0
  have r1 := cellAt Z 1
  simp at r0 r1
  go_enter Tryd.func38, Tryd.ntmps38
  go_wp2_with fail
  refine bodyPost_ret (v := .agg #[.int .i64 i, .int .i64 j]) (by simp [results, Tryd.results38, go_sem, r0, r1]) rfl ⟨rfl, ?_⟩
  exact ((Below.refl _ _).alloc (Nat.le_refl _) _).alloc (by simp) _
set_option maxHeartbeats 1600000 in
theorem clabel_0 (k : Int) (k1 : ¬ k = 1) (k2 : ¬ k = 2) (k3 : ¬ k = 3) (s q : Int) (rs : List Rd1) (ws : List Wr1) (A1 : Option Addr) (c1 : Nat) (A2 : Option Addr) (c2 : Nat) (i j g : Int) (st : Nat) (y : Bool) (w : World) :
    Calls Tryd.prog 38 #[.agg #[.int .i64 k, .int .i64 s, .int .i64 q, .slice A1 rs.length c1, .slice A2 ws.length c2, .int .i64 i, .int .i64 j, .int .i64 g, .int .u64 (st : Int), .bool y]] w fun e w' => e = .returned (.agg #[.int .i64 0, .int .i64 0]) ∧ Below w.heap.size w w' := by
  generalize rs.length = n1
  generalize ws.length = n2
  have g0 : Below w.heap.size w (((w.alloc (.cells #[.int .i64 k, .int .i64 s, .int .i64 q, .slice A1 n1 c1, .slice A2 n2 c2, .int .i64 i, .int .i64 j, .int .i64 g, .int .u64 (st : Int), .bool y] 33)).alloc (.cells #[.int .i64 0, .int .i64 0] 26))) := ((Below.refl _ _).alloc (Nat.le_refl _) _).alloc (by simp) _
  have Z := setAt (setAt (heap_alloc_new (w.alloc (.cells #[.int .i64 k, .int .i64 s, .int .i64 q, .slice A1 n1 c1, .slice A2 n2 c2, .int .i64 i, .int .i64 j, .int .i64 g, .int .u64 (st : Int), .bool y] 33)) (.cells #[.int .i64 0, .int .i64 0] 26)) 0 (.int .i64 0)) 1 (.int .i64 0)
  have r0 := cellAt Z 0
  have r1 := cellAt Z 1
  simp at r0 r1
  have d1 : (k == 1) = false := by simp [k1]
  have d2 : (k == 2) = false := by simp [k2]
  have d3 : (k == 3) = false := by simp [k3]
  go_enter Tryd.func38, Tryd.ntmps38
  go_wp2_with fail
  refine bodyPost_ret (v := .agg #[.int .i64 0, .int .i64 0]) (by simp [results, Tryd.results38, go_sem, r0, r1]) rfl ⟨rfl, ?_⟩
  exact ((Below.refl _ _).alloc (Nat.le_refl _) _).alloc (by simp) _
theorem clabel_any (k : Int) (s q : Int) (rs : List Rd1) (ws : List Wr1) (A1 : Option Addr) (c1 : Nat) (A2 : Option Addr) (c2 : Nat) (i j g : Int) (st : Nat) (y : Bool) (w : World) :
    Calls Tryd.prog 38 #[.agg #[.int .i64 k, .int .i64 s, .int .i64 q, .slice A1 rs.length c1, .slice A2 ws.length c2, .int .i64 i, .int .i64 j, .int .i64 g, .int .u64 (st : Int), .bool y]] w fun e w' => e = .returned (.agg #[.int .i64 (T.label k s q i j).1, .int .i64 (T.label k s q i j).2]) ∧ Below w.heap.size w w' := by
  unfold T.label
  by_cases k1 : k = 1
  · subst k1; rw [if_pos rfl]; exact clabel_1 s q rs ws A1 c1 A2 c2 i j g st y w
  · rw [if_neg k1]
    by_cases k2 : k = 2
    · subst k2; rw [if_pos (Or.inl rfl)]; exact clabel_2 s q rs ws A1 c1 A2 c2 i j g st y w
    · by_cases k3 : k = 3
      · subst k3; rw [if_pos (Or.inr rfl)]; exact clabel_3 s q rs ws A1 c1 A2 c2 i j g st y w
      · rw [if_neg (by omega)]; exact clabel_0 k k1 k2 k3 s q rs ws A1 c1 A2 c2 i j g st y w
set_option maxHeartbeats 1600000 in
theorem rclabel_1 (s q : Int) (rs : List Rd1) (ws : List Wr1) (A1 : Option Addr) (c1 : Nat) (A2 : Option Addr) (c2 : Nat) (i j g : Int) (st : Nat) (y : Bool) (w : World) :
    Calls Tryd.prog 55 #[.agg #[.int .i64 1, .int .i64 s, .int .i64 q, .slice A1 rs.length c1, .slice A2 ws.length c2, .int .i64 i, .int .i64 j, .int .i64 g, .int .u64 (st : Int), .bool y]] w fun e w' => e = .returned (.agg #[.int .i64 s, .int .i64 q]) ∧ Below w.heap.size w w' := by
  generalize rs.length = n1
  generalize ws.length = n2
  have g0 : Below w.heap.size w (((w.alloc (.cells #[.int .i64 1, .int .i64 s, .int .i64 q, .slice A1 n1 c1, .slice A2 n2 c2, .int .i64 i, .int .i64 j, .int .i64 g, .int .u64 (st : Int), .bool y] 45)).alloc (.cells #[.int .i64 0, .int .i64 0] 26))) := ((Below.refl _ _).alloc (Nat.le_refl _) _).alloc (by simp) _
  have Z := setAt (setAt (heap_alloc_new (w.alloc (.cells #[.int .i64 1, .int .i64 s, .int .i64 q, .slice A1 n1 c1, .slice A2 n2 c2, .int .i64 i, .int .i64 j, .int .i64 g, .int .u64 (st : Int), .bool y] 45)) (.cells #[.int .i64 0, .int .i64 0] 26)) 0 (.int .i64 s)) 1 (.int .i64 q)
  have r0 := cellAt Z 0
  have r1 := cellAt Z 1
  simp at r0 r1
  go_enter Tryd.func55, Tryd.ntmps55
  go_wp2_with fail
  refine bodyPost_ret (v := .agg #[.int .i64 s, .int .i64 q]) (by simp [results, Tryd.results55, go_sem, r0, r1]) rfl ⟨rfl, ?_⟩
  exact ((Below.refl _ _).alloc (Nat.le_refl _) _).alloc (by simp) _
set_option maxHeartbeats 1600000 in
theorem rclabel_2 (s q : Int) (rs : List Rd1) (ws : List Wr1) (A1 : Option Addr) (c1 : Nat) (A2 : Option Addr) (c2 : Nat) (i j g : Int) (st : Nat) (y : Bool) (w : World) :
    Calls Tryd.prog 55 #[.agg #[.int .i64 2, .int .i64 s, .int .i64 q, .slice A1 rs.length c1, .slice A2 ws.length c2, .int .i64 i, .int .i64 j, .int .i64 g, .int .u64 (st : Int), .bool y]] w fun e w' => e = .returned (.agg #[.int .i64 i, .int .i64 j]) ∧ Below w.heap.size w w' := by
  generalize rs.length = n1
  generalize ws.length = n2
  have g0 : Below w.heap.size w (((w.alloc (.cells #[.int .i64 2, .int .i64 s, .int .i64 q, .slice A1 n1 c1, .slice A2 n2 c2, .int .i64 i, .int .i64 j, .int .i64 g, .int .u64 (st : Int), .bool y] 45)).alloc (.cells #[.int .i64 0, .int .i64 0] 26))) := ((Below.refl _ _).alloc (Nat.le_refl _) _).alloc (by simp) _
  have Z := setAt (setAt (heap_alloc_new (w.alloc (.cells #[.int .i64 2, .int .i64 s, .int .i64 q, .slice A1 n1 c1, .slice A2 n2 c2, .int .i64 i, .int .i64 j, .int .i64 g, .int .u64 (st : Int), .bool y] 45)) (.cells #[.int .i64 0, .int .i64 0] 26)) 0 (.int .i64 i)) 1 (.int .i64 j)
  have r0 := cellAt Z 0
  have r1 := cellAt Z 1
  simp at r0 r1
  go_enter Tryd.func55, Tryd.ntmps55
  go_wp2_with fail
  refine bodyPost_ret (v := .agg #[.int .i64 i, .int .i64 j]) (by simp [results, Tryd.results55, go_sem, r0, r1]) rfl ⟨rfl, ?_⟩
  exact ((Below.refl _ _).alloc (Nat.le_refl _) _).alloc (by simp) _
set_option maxHeartbeats 1600000 in
theorem rclabel_3 (s q : Int) (rs : List Rd1) (ws : List Wr1) (A1 : Option Addr) (c1 : Nat) (A2 : Option Addr) (c2 : Nat) (i j g : Int) (st : Nat) (y : Bool) (w : World) :
    Calls Tryd.prog 55 #[.agg #[.int .i64 3, .int .i64 s, .int .i64 q, .slice A1 rs.length c1, .slice A2 ws.length c2, .int .i64 i, .int .i64 j, .int .i64 g, .int .u64 (st : Int), .bool y]] w fun e w' => e = .returned (.agg #[.int .i64 i, .int .i64 j]) ∧ Below w.heap.size w w' := by
  generalize rs.length = n1
  generalize ws.length = n2
  have g0 : Below w.heap.size w (((w.alloc (.cells #[.int .i64 3, .int .i64 s, .int .i64 q, .slice A1 n1 c1, .slice A2 n2 c2, .int .i64 i, .int .i64 j, .int .i64 g, .int .u64 (st : Int), .bool y] 45)).alloc (.cells #[.int .i64 0, .int .i64 0] 26))) := ((Below.refl _ _).alloc (Nat.le_refl _) _).alloc (by simp) _
  have Z := setAt (setAt (heap_alloc_new (w.alloc (.cells #[.int .i64 3, .int .i64 s, .int .i64 q, .slice A1 n1 c1, .slice A2 n2 c2, .int .i64 i, .int .i64 j, .int .i64 g, .int .u64 (st : Int), .bool y] 45)) (.cells #[.int .i64 0, .int .i64 0] 26)) 0 (.int .i64 i)) 1 (.int .i64 j)
  have r0 := cellAt Z 0
  have r1 := cellAt Z 1
  simp at r0 r1
  go_enter Tryd.func55, Tryd.ntmps55
  go_wp2_with fail
  refine bodyPost_ret (v := .agg #[.int .i64 i, .int .i64 j]) (by simp [results, Tryd.results55, go_sem, r0, r1]) rfl ⟨rfl, ?_⟩
  exact ((Below.refl _ _).alloc (Nat.le_refl _) _).alloc (by simp) _
set_option maxHeartbeats 1600000 in
theorem rclabel_0 (k : Int) (k1 : ¬ k = 1) (k2 : ¬ k = 2) (k3 : ¬ k = 3) (s q : Int) (rs : List Rd1) (ws : List Wr1) (A1 : Option Addr) (c1 : Nat) (A2 : Option Addr) (c2 : Nat) (i j g : Int) (st : Nat) (y : Bool) (w : World) :
    Calls Tryd.prog 55 #[.agg #[.int .i64 k, .int .i64 s, .int .i64 q, .slice A1 rs.length c1, .slice A2 ws.length c2, .int .i64 i, .int .i64 j, .int .i64 g, .int .u64 (st : Int), .bool y]] w fun e w' => e = .returned (.agg #[.int .i64 0, .int .i64 0]) ∧ Below w.heap.size w w' := by
  generalize rs.length = n1
  generalize ws.length = n2
  have g0 : Below w.heap.size w (((w.alloc (.cells #[.int .i64 k, .int .i64 s, .int .i64 q, .slice A1 n1 c1, .slice A2 n2 c2, .int .i64 i, .int .i64 j, .int .i64 g, .int .u64 (st : Int), .bool y] 45)).alloc (.cells #[.int .i64 0, .int .i64 0] 26))) := ((Below.refl _ _).alloc (Nat.le_refl _) _).alloc (by simp) _
  have Z := setAt (setAt (heap_alloc_new (w.alloc (.cells #[.int .i64 k, .int .i64 s, .int .i64 q, .slice A1 n1 c1, .slice A2 n2 c2, .int .i64 i, .int .i64 j, .int .i64 g, .int .u64 (st : Int), .bool y] 45)) (.cells #[.int .i64 0, .int .i64 0] 26)) 0 (.int .i64 0)) 1 (.int .i64 0)
  have r0 := cellAt Z 0
  have r1 := cellAt Z 1
  simp at r0 r1
  have d1 : (k == 1) = false := by simp [k1]
  have d2 : (k == 2) = false := by simp [k2]
  have d3 : (k == 3) = false := by simp [k3]
  go_enter Tryd.func55, Tryd.ntmps55
  go_wp2_with fail
  refine bodyPost_ret (v := .agg #[.int .i64 0, .int .i64 0]) (by simp [results, Tryd.results55, go_sem, r0, r1]) rfl ⟨rfl, ?_⟩
  exact ((Below.refl _ _).alloc (Nat.le_refl _) _).alloc (by simp) _
theorem rclabel_any (k : Int) (s q : Int) (rs : List Rd1) (ws : List Wr1) (A1 : Option Addr) (c1 : Nat) (A2 : Option Addr) (c2 : Nat) (i j g : Int) (st : Nat) (y : Bool) (w : World) :
    Calls Tryd.prog 55 #[.agg #[.int .i64 k, .int .i64 s, .int .i64 q, .slice A1 rs.length c1, .slice A2 ws.length c2, .int .i64 i, .int .i64 j, .int .i64 g, .int .u64 (st : Int), .bool y]] w fun e w' => e = .returned (.agg #[.int .i64 (T.label k s q i j).1, .int .i64 (T.label k s q i j).2]) ∧ Below w.heap.size w w' := by
  unfold T.label
  by_cases k1 : k = 1
  · subst k1; rw [if_pos rfl]; exact rclabel_1 s q rs ws A1 c1 A2 c2 i j g st y w
  · rw [if_neg k1]
    by_cases k2 : k = 2
    · subst k2; rw [if_pos (Or.inl rfl)]; exact rclabel_2 s q rs ws A1 c1 A2 c2 i j g st y w
    · by_cases k3 : k = 3
      · subst k3; rw [if_pos (Or.inr rfl)]; exact rclabel_3 s q rs ws A1 c1 A2 c2 i j g st y w
      · rw [if_neg (by omega)]; exact rclabel_0 k k1 k2 k3 s q rs ws A1 c1 A2 c2 i j g st y w
end Go.Proofs.YtjofjpmhokjhnaaDoor
