/- The walks of layer 6's Formed and Less, and of the reference's, under names of their own. (Printed by gen_bal.py.) Conditions: a round is a uint32. -/
import Derived.Test.YtbahooohkigcnaaDoorArgs
namespace Go.Proofs.YtbahooohkigcnaaDoor
set_option maxRecDepth 20000
open Go.RowKit
set_option linter.unusedSimpArgs false
set_option linter.unusedVariables false

namespace B
def less (r1 : Nat) (n1 : Int) (r2 : Nat) (n2 : Int) : Bool := decide (r1 < r2) || (decide (r1 = r2) && decide (n1 < n2))
def formed (n : Int) : Bool := decide (0 ≤ n) && decide (n < 5)
end B
/-- a ballot as a value -/
abbrev bal (r : Nat) (n : Int) : Value := .agg #[.int .u32 (r : Int), .int .i64 n]

theorem belowOfDrewX {B : Nat} {w w' : World} (h : Below B w.drew w') : Below B w w' := ⟨h.os, h.tape, h.output, h.size, h.block⟩
theorem bcell {W w1 : World} (hb : Below W.heap.size W w1) : (∀ b o, b < W.heap.size → w1.cell? ⟨b, o, none⟩ = W.cell? ⟨b, o, none⟩) ∧ (∀ b o, b < W.heap.size → w1.frozen? ⟨b, o, none⟩ = W.frozen? ⟨b, o, none⟩) :=
  ⟨fun b o h => hb.cell (p := ⟨b, o, none⟩) h, fun b o h => hb.frozen (p := ⟨b, o, none⟩) h⟩

set_option maxHeartbeats 400000 in
theorem bformed_any (r : Nat) (n : Int) (w : World) :
    Calls Tryd.prog 70 #[bal r n] w fun e w' => e = .returned (.bool (B.formed n)) ∧ Below w.heap.size w w' := by
  go_enter Tryd.func70, Tryd.ntmps70
  go_wp2
  all_goals
    go_ret
    exact ⟨ret_bool (by unfold B.formed; first | rfl | (simp; omega) | (rw [Bool.eq_iff_iff]; simp)), (Below.refl _ _).alloc (Nat.le_refl _) _⟩
set_option maxHeartbeats 400000 in
theorem rbformed_any (r : Nat) (n : Int) (w : World) :
    Calls Tryd.prog 71 #[bal r n] w fun e w' => e = .returned (.bool (B.formed n)) ∧ Below w.heap.size w w' := by
  go_enter Tryd.func71, Tryd.ntmps71
  go_wp2
  all_goals
    go_ret
    exact ⟨ret_bool (by unfold B.formed; first | rfl | (simp; omega) | (rw [Bool.eq_iff_iff]; simp; omega)), (Below.refl _ _).alloc (Nat.le_refl _) _⟩

set_option maxHeartbeats 400000 in
theorem bless_any (r1 : Nat) (n1 : Int) (r2 : Nat) (n2 : Int) (w : World) :
    Calls Tryd.prog 45 #[bal r1 n1, bal r2 n2] w fun e w' => e = .returned (.bool (B.less r1 n1 r2 n2)) ∧ Below w.heap.size w w' := by
  rcases Nat.lt_trichotomy r1 r2 with h | h | h
  · have H : Hid (B.less r1 n1 r2 n2 = true) := by show _ = _; unfold B.less; simp [h]
    rw [H.out]
    have hne : ((r1 : Int) == (r2 : Int)) = false := by simp; omega
    have hne2 : ((r1 : Int) != (r2 : Int)) = true := by simp; omega
    go_enter Tryd.func45, Tryd.ntmps45
    go_wp2
    go_ret
    exact ⟨ret_bool (by simp; try omega), ((Below.refl _ _).alloc (Nat.le_refl _) _).alloc (by simp) _⟩
  · subst h
    have H : Hid (B.less r1 n1 r1 n2 = decide (n1 < n2)) := by show _ = _; unfold B.less; simp
    rw [H.out]
    go_enter Tryd.func45, Tryd.ntmps45
    go_wp2
    go_ret
    exact ⟨ret_bool (by simp), ((Below.refl _ _).alloc (Nat.le_refl _) _).alloc (by simp) _⟩
  · have H : Hid (B.less r1 n1 r2 n2 = false) := by show _ = _; unfold B.less; simp; omega
    rw [H.out]
    have hlt : ¬ r1 < r2 := by omega
    have hne : ((r1 : Int) == (r2 : Int)) = false := by simp; omega
    have hne2 : ((r1 : Int) != (r2 : Int)) = true := by simp; omega
    go_enter Tryd.func45, Tryd.ntmps45
    go_wp2
    go_ret
    exact ⟨ret_bool (by simp; try omega), ((Below.refl _ _).alloc (Nat.le_refl _) _).alloc (by simp) _⟩
set_option maxHeartbeats 400000 in
theorem rbless_any (r1 : Nat) (n1 : Int) (r2 : Nat) (n2 : Int) (w : World) :
    Calls Tryd.prog 63 #[bal r1 n1, bal r2 n2] w fun e w' => e = .returned (.bool (B.less r1 n1 r2 n2)) ∧ Below w.heap.size w w' := by
  rcases Nat.lt_trichotomy r1 r2 with h | h | h
  · have H : Hid (B.less r1 n1 r2 n2 = true) := by show _ = _; unfold B.less; simp [h]
    rw [H.out]
    have hne : ((r1 : Int) == (r2 : Int)) = false := by simp; omega
    have hne2 : ((r1 : Int) != (r2 : Int)) = true := by simp; omega
    go_enter Tryd.func63, Tryd.ntmps63
    go_wp2
    go_ret
    exact ⟨ret_bool (by simp; try omega), ((Below.refl _ _).alloc (Nat.le_refl _) _).alloc (by simp) _⟩
  · subst h
    have H : Hid (B.less r1 n1 r1 n2 = decide (n1 < n2)) := by show _ = _; unfold B.less; simp
    rw [H.out]
    go_enter Tryd.func63, Tryd.ntmps63
    go_wp2
    go_ret
    exact ⟨ret_bool (by simp), ((Below.refl _ _).alloc (Nat.le_refl _) _).alloc (by simp) _⟩
  · have H : Hid (B.less r1 n1 r2 n2 = false) := by show _ = _; unfold B.less; simp; omega
    rw [H.out]
    have hlt : ¬ r1 < r2 := by omega
    have hne : ((r1 : Int) == (r2 : Int)) = false := by simp; omega
    have hne2 : ((r1 : Int) != (r2 : Int)) = true := by simp; omega
    go_enter Tryd.func63, Tryd.ntmps63
    go_wp2
    go_ret
    exact ⟨ret_bool (by simp; try omega), ((Below.refl _ _).alloc (Nat.le_refl _) _).alloc (by simp) _⟩


theorem cellsBal : Tryd.prog.cellsOf 28 = 2 := by kernel_rfl
theorem cellsU32 : Tryd.prog.cellsOf 26 = 1 := by kernel_rfl
theorem cellsInt6 : Tryd.prog.cellsOf 3 = 1 := by kernel_rfl
theorem Cel.bal {W : World} {cs : List Value} (h : Cel W 28 cs) : ∃ (r : Nat) (n : Int), cs = [.int .u32 (r : Int), .int .i64 n] ∧ r < 4294967296 ∧ -9223372036854775808 ≤ n ∧ n ≤ 9223372036854775807 := by
  have hl := h.len Tryd.underlying28
  rw [cellsBal] at hl
  match cs, hl with
  | [a, b], _ =>
    obtain ⟨x0, e0, hx⟩ := (h.field1 Tryd.underlying28 0 0 26 _ rfl rfl rfl cellsU32 a rfl).u32 Tryd.underlying26
    obtain ⟨x1, e1, hy⟩ := (h.field1 Tryd.underlying28 1 1 3 _ rfl rfl rfl cellsInt6 b rfl).i64 Tryd.underlying3
    simp at e0 e1
    subst e0; subst e1
    exact ⟨x0, x1, rfl, hx, hy⟩
theorem Arg.bal {W : World} {v : Value} (h : Arg W 28 v) : ∃ (r : Nat) (n : Int), v = bal r n ∧ r < 4294967296 ∧ -9223372036854775808 ≤ n ∧ n ≤ 9223372036854775807 := by
  obtain ⟨⟨cs⟩, rfl, hc⟩ := h.struct Tryd.underlying28
  obtain ⟨r, n, rfl, hb⟩ := hc.bal
  exact ⟨r, n, rfl, hb⟩
namespace B
theorem fBal : (Tryd.prog.fieldsOf 28).toList = [{ name := "Round", type := 26, offset := 0, embedded := false, tag := "", pkgPath := "", byteOffset := 0 },
    { name := "Node", type := 3, offset := 1, embedded := false, tag := "", pkgPath := "", byteOffset := 8 }] := by kernel_rfl
theorem eqBal (d : Nat) (r : Nat) (n : Int) (r' : Nat) (n' : Int) (w : World) :
    (Op.equalIn (d + 2) 28 (.agg #[.int .u32 r, .int .i64 n]) (.agg #[.int .u32 r', .int .i64 n'])).run Tryd.prog w = .ok (decide (r = r' ∧ n = n')) w := by
  have hu : Tryd.prog.underlying 28 = some (.struct (Tryd.prog.fieldsOf 28)) := by kernel_rfl
  rw [run_equalIn_struct (P := Tryd.prog) w (d + 1) 28 _ _ hu (by kernel_rfl), fBal]
  have e0 : ∀ w, (Op.equalIn (d + 1) 26 (.int .u32 r) (.int .u32 r')).run Tryd.prog w = .ok ((r : Int) == (r' : Int)) w := fun w => run_equalIn_int w d 26 .u32 .u32 _ _ Tryd.underlying26
  have e1 : ∀ w, (Op.equalIn (d + 1) 3 (.int .i64 n) (.int .i64 n')).run Tryd.prog w = .ok (n == n') w := fun w => run_equalIn_int w d 3 .i64 .i64 n n' Tryd.underlying3
  have p0 : ∀ (x y : Value) w, (part 26 #[x, y] 0).run Tryd.prog w = .ok x w := fun x y w => by rfl
  have p1 : ∀ (x y : Value) w, (part 3 #[x, y] 1).run Tryd.prog w = .ok y w := fun x y w => by rfl
  generalize hd : d + 1 = d1 at *
  clear hd
  by_cases hs : r = r'
  · subst hs
    by_cases hq : n = n'
    · subst hq; simp [Op.eqFields, e0, e1, p0, p1]
    · simp [Op.eqFields, e0, e1, p0, p1, hq]
  · have : ¬ (r : Int) = (r' : Int) := by omega
    simp [Op.eqFields, e0, e1, p0, p1, hs, this]
theorem run_eqBal (r : Nat) (n : Int) (r' : Nat) (n' : Int) (w : World) :
    (binOp .eql 28 (.agg #[.int .u32 r, .int .i64 n]) (.agg #[.int .u32 r', .int .i64 n'])).run Tryd.prog w = .ok (.bool (decide (r = r' ∧ n = n'))) w := by
  rw [run_eql_struct, show (10000 : Nat) = 9998 + 2 from rfl, eqBal]; rfl
end B
namespace B
theorem fRBal : (Tryd.prog.fieldsOf 40).toList = [{ name := "Round", type := 26, offset := 0, embedded := false, tag := "", pkgPath := "", byteOffset := 0 },
    { name := "Node", type := 3, offset := 1, embedded := false, tag := "", pkgPath := "", byteOffset := 8 }] := by kernel_rfl
theorem eqRBal (d : Nat) (r : Nat) (n : Int) (r' : Nat) (n' : Int) (w : World) :
    (Op.equalIn (d + 2) 40 (.agg #[.int .u32 r, .int .i64 n]) (.agg #[.int .u32 r', .int .i64 n'])).run Tryd.prog w = .ok (decide (r = r' ∧ n = n')) w := by
  have hu : Tryd.prog.underlying 40 = some (.struct (Tryd.prog.fieldsOf 40)) := by kernel_rfl
  rw [run_equalIn_struct (P := Tryd.prog) w (d + 1) 40 _ _ hu (by kernel_rfl), fRBal]
  have e0 : ∀ w, (Op.equalIn (d + 1) 26 (.int .u32 r) (.int .u32 r')).run Tryd.prog w = .ok ((r : Int) == (r' : Int)) w := fun w => run_equalIn_int w d 26 .u32 .u32 _ _ Tryd.underlying26
  have e1 : ∀ w, (Op.equalIn (d + 1) 3 (.int .i64 n) (.int .i64 n')).run Tryd.prog w = .ok (n == n') w := fun w => run_equalIn_int w d 3 .i64 .i64 n n' Tryd.underlying3
  have p0 : ∀ (x y : Value) w, (part 26 #[x, y] 0).run Tryd.prog w = .ok x w := fun x y w => by rfl
  have p1 : ∀ (x y : Value) w, (part 3 #[x, y] 1).run Tryd.prog w = .ok y w := fun x y w => by rfl
  generalize hd : d + 1 = d1 at *
  clear hd
  by_cases hs : r = r'
  · subst hs
    by_cases hq : n = n'
    · subst hq; simp [Op.eqFields, e0, e1, p0, p1]
    · simp [Op.eqFields, e0, e1, p0, p1, hq]
  · have : ¬ (r : Int) = (r' : Int) := by omega
    simp [Op.eqFields, e0, e1, p0, p1, hs, this]
theorem run_eqRBal (r : Nat) (n : Int) (r' : Nat) (n' : Int) (w : World) :
    (binOp .eql 40 (.agg #[.int .u32 r, .int .i64 n]) (.agg #[.int .u32 r', .int .i64 n'])).run Tryd.prog w = .ok (.bool (decide (r = r' ∧ n = n'))) w := by
  rw [run_eql_struct, show (10000 : Nat) = 9998 + 2 from rfl, eqRBal]; rfl
end B
end Go.Proofs.YtbahooohkigcnaaDoor
