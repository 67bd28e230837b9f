/- The walks of layer 6's Formed and Less, and of the reference's, under names of their own. (Printed by gen_bal.py.) Conditions: a round is a uint32. -/
import Derived.Test.YtjofjpmhokjhnaaDoorArgs
namespace Go.Proofs.YtjofjpmhokjhnaaDoor
set_option maxRecDepth 20000
open Go.RowKit
set_option linter.unusedSimpArgs false
set_option linter.unusedVariables false

namespace B
def less (r1 : Nat) (n1 : Int) (r2 : Nat) (n2 : Int) : Bool := decide (r1 < r2) || (decide (r1 = r2) && decide (n1 < n2))
def formed (n : Int) : Bool := decide (0 ≤ n) && decide (n < 5)
end B
/-- a ballot as a value -/
abbrev bal (r : Nat) (n : Int) : Value := .agg #[.int .u32 (r : Int), .int .i64 n]

theorem belowOfDrewX {B : Nat} {w w' : World} (h : Below B w.drew w') : Below B w w' := ⟨h.os, h.tape, h.output, h.size, h.block⟩
theorem bcell {W w1 : World} (hb : Below W.heap.size W w1) : (∀ b o, b < W.heap.size → w1.cell? ⟨b, o, none⟩ = W.cell? ⟨b, o, none⟩) ∧ (∀ b o, b < W.heap.size → w1.frozen? ⟨b, o, none⟩ = W.frozen? ⟨b, o, none⟩) :=
  ⟨fun b o h => hb.cell (p := ⟨b, o, none⟩) h, fun b o h => hb.frozen (p := ⟨b, o, none⟩) h⟩

set_option maxHeartbeats 400000 in
theorem bformed_any (r : Nat) (n : Int) (w : World) :
    Calls Tryd.prog 44 #[bal r n] w fun e w' => e = .returned (.bool (B.formed n)) ∧ Below w.heap.size w w' := by
  go_enter Tryd.func44, Tryd.ntmps44
  go_wp2
  all_goals
    go_ret
    exact ⟨ret_bool (by unfold B.formed; first | rfl | (simp; omega) | (rw [Bool.eq_iff_iff]; simp)), (Below.refl _ _).alloc (Nat.le_refl _) _⟩
set_option maxHeartbeats 400000 in
theorem rbformed_any (r : Nat) (n : Int) (w : World) :
    Calls Tryd.prog 107 #[bal r n] w fun e w' => e = .returned (.bool (B.formed n)) ∧ Below w.heap.size w w' := by
  go_enter Tryd.func107, Tryd.ntmps107
  go_wp2
  all_goals
    go_ret
    exact ⟨ret_bool (by unfold B.formed; first | rfl | (simp; omega) | (rw [Bool.eq_iff_iff]; simp; omega)), (Below.refl _ _).alloc (Nat.le_refl _) _⟩

theorem cellsBal : Tryd.prog.cellsOf 24 = 2 := by kernel_rfl
theorem cellsU32 : Tryd.prog.cellsOf 22 = 1 := by kernel_rfl
theorem cellsInt6 : Tryd.prog.cellsOf 3 = 1 := by kernel_rfl
theorem Cel.bal {W : World} {cs : List Value} (h : Cel W 24 cs) : ∃ (r : Nat) (n : Int), cs = [.int .u32 (r : Int), .int .i64 n] ∧ r < 4294967296 ∧ -9223372036854775808 ≤ n ∧ n ≤ 9223372036854775807 := by
  have hl := h.len Tryd.underlying24
  rw [cellsBal] at hl
  match cs, hl with
  | [a, b], _ =>
    obtain ⟨x0, e0, hx⟩ := (h.field1 Tryd.underlying24 0 0 22 _ rfl rfl rfl cellsU32 a rfl).u32 Tryd.underlying22
    obtain ⟨x1, e1, hy⟩ := (h.field1 Tryd.underlying24 1 1 3 _ rfl rfl rfl cellsInt6 b rfl).i64 Tryd.underlying3
    simp at e0 e1
    subst e0; subst e1
    exact ⟨x0, x1, rfl, hx, hy⟩
theorem Arg.bal {W : World} {v : Value} (h : Arg W 24 v) : ∃ (r : Nat) (n : Int), v = bal r n ∧ r < 4294967296 ∧ -9223372036854775808 ≤ n ∧ n ≤ 9223372036854775807 := by
  obtain ⟨⟨cs⟩, rfl, hc⟩ := h.struct Tryd.underlying24
  obtain ⟨r, n, rfl, hb⟩ := hc.bal
  exact ⟨r, n, rfl, hb⟩
namespace B
theorem fBal : (Tryd.prog.fieldsOf 24).toList = [{ name := "Round", type := 22, offset := 0, embedded := false, tag := "", pkgPath := "", byteOffset := 0 },
    { name := "Node", type := 3, offset := 1, embedded := false, tag := "", pkgPath := "", byteOffset := 8 }] := by kernel_rfl
theorem eqBal (d : Nat) (r : Nat) (n : Int) (r' : Nat) (n' : Int) (w : World) :
    (Op.equalIn (d + 2) 24 (.agg #[.int .u32 r, .int .i64 n]) (.agg #[.int .u32 r', .int .i64 n'])).run Tryd.prog w = .ok (decide (r = r' ∧ n = n')) w := by
  have hu : Tryd.prog.underlying 24 = some (.struct (Tryd.prog.fieldsOf 24)) := by kernel_rfl
  rw [run_equalIn_struct (P := Tryd.prog) w (d + 1) 24 _ _ hu (by kernel_rfl), fBal]
  have e0 : ∀ w, (Op.equalIn (d + 1) 22 (.int .u32 r) (.int .u32 r')).run Tryd.prog w = .ok ((r : Int) == (r' : Int)) w := fun w => run_equalIn_int w d 22 .u32 .u32 _ _ Tryd.underlying22
  have e1 : ∀ w, (Op.equalIn (d + 1) 3 (.int .i64 n) (.int .i64 n')).run Tryd.prog w = .ok (n == n') w := fun w => run_equalIn_int w d 3 .i64 .i64 n n' Tryd.underlying3
  have p0 : ∀ (x y : Value) w, (part 22 #[x, y] 0).run Tryd.prog w = .ok x w := fun x y w => by rfl
  have p1 : ∀ (x y : Value) w, (part 3 #[x, y] 1).run Tryd.prog w = .ok y w := fun x y w => by rfl
  generalize hd : d + 1 = d1 at *
  clear hd
  by_cases hs : r = r'
  · subst hs
    by_cases hq : n = n'
    · subst hq; simp [Op.eqFields, e0, e1, p0, p1]
    · simp [Op.eqFields, e0, e1, p0, p1, hq]
  · have : ¬ (r : Int) = (r' : Int) := by omega
    simp [Op.eqFields, e0, e1, p0, p1, hs, this]
theorem run_eqBal (r : Nat) (n : Int) (r' : Nat) (n' : Int) (w : World) :
    (binOp .eql 24 (.agg #[.int .u32 r, .int .i64 n]) (.agg #[.int .u32 r', .int .i64 n'])).run Tryd.prog w = .ok (.bool (decide (r = r' ∧ n = n'))) w := by
  rw [run_eql_struct, show (10000 : Nat) = 9998 + 2 from rfl, eqBal]; rfl
end B
namespace B
theorem fRBal : (Tryd.prog.fieldsOf 44).toList = [{ name := "Round", type := 22, offset := 0, embedded := false, tag := "", pkgPath := "", byteOffset := 0 },
    { name := "Node", type := 3, offset := 1, embedded := false, tag := "", pkgPath := "", byteOffset := 8 }] := by kernel_rfl
theorem eqRBal (d : Nat) (r : Nat) (n : Int) (r' : Nat) (n' : Int) (w : World) :
    (Op.equalIn (d + 2) 44 (.agg #[.int .u32 r, .int .i64 n]) (.agg #[.int .u32 r', .int .i64 n'])).run Tryd.prog w = .ok (decide (r = r' ∧ n = n')) w := by
  have hu : Tryd.prog.underlying 44 = some (.struct (Tryd.prog.fieldsOf 44)) := by kernel_rfl
  rw [run_equalIn_struct (P := Tryd.prog) w (d + 1) 44 _ _ hu (by kernel_rfl), fRBal]
  have e0 : ∀ w, (Op.equalIn (d + 1) 22 (.int .u32 r) (.int .u32 r')).run Tryd.prog w = .ok ((r : Int) == (r' : Int)) w := fun w => run_equalIn_int w d 22 .u32 .u32 _ _ Tryd.underlying22
  have e1 : ∀ w, (Op.equalIn (d + 1) 3 (.int .i64 n) (.int .i64 n')).run Tryd.prog w = .ok (n == n') w := fun w => run_equalIn_int w d 3 .i64 .i64 n n' Tryd.underlying3
  have p0 : ∀ (x y : Value) w, (part 22 #[x, y] 0).run Tryd.prog w = .ok x w := fun x y w => by rfl
  have p1 : ∀ (x y : Value) w, (part 3 #[x, y] 1).run Tryd.prog w = .ok y w := fun x y w => by rfl
  generalize hd : d + 1 = d1 at *
  clear hd
  by_cases hs : r = r'
  · subst hs
    by_cases hq : n = n'
    · subst hq; simp [Op.eqFields, e0, e1, p0, p1]
    · simp [Op.eqFields, e0, e1, p0, p1, hq]
  · have : ¬ (r : Int) = (r' : Int) := by omega
    simp [Op.eqFields, e0, e1, p0, p1, hs, this]
theorem run_eqRBal (r : Nat) (n : Int) (r' : Nat) (n' : Int) (w : World) :
    (binOp .eql 44 (.agg #[.int .u32 r, .int .i64 n]) (.agg #[.int .u32 r', .int .i64 n'])).run Tryd.prog w = .ok (.bool (decide (r = r' ∧ n = n'))) w := by
  rw [run_eql_struct, show (10000 : Nat) = 9998 + 2 from rfl, eqRBal]; rfl
end B
end Go.Proofs.YtjofjpmhokjhnaaDoor
