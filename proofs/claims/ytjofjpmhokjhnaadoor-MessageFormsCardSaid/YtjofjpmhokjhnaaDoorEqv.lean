/- The run of '==' between two values. No condition. -/
import Derived.Test.YtjofjpmhokjhnaaDoorForm
namespace Go.Proofs.YtjofjpmhokjhnaaDoor
set_option maxRecDepth 20000
open Go.RowKit
namespace V
theorem run_eqv (k : Int) (b : Nat) (t : ByteArray) (k' : Int) (b' : Nat) (t' : ByteArray) (w : World) :
    (binOp .eql 35 (.agg #[.int .i64 k, .int .u64 b, .string t]) (.agg #[.int .i64 k', .int .u64 b', .string t'])).run Tryd.prog w = .ok (.bool (decide (k = k' ∧ b = b' ∧ t.toList = t'.toList))) w := by
  have hf : (Tryd.prog.fieldsOf 35).toList = [{ name := "Kind", type := 3, offset := 0, embedded := false, tag := "", pkgPath := "", byteOffset := 0 },
        { name := "Bits", type := 31, offset := 1, embedded := false, tag := "", pkgPath := "", byteOffset := 8 },
        { name := "Text", type := 9, offset := 2, embedded := false, tag := "", pkgPath := "", byteOffset := 16 }] := by kernel_rfl
  have h27 : Tryd.prog.underlying 35 = some (.struct (Tryd.prog.fieldsOf 35)) := by kernel_rfl
  have e := run_equalIn_struct (P := Tryd.prog) w 9999 35 #[.int .i64 k, .int .u64 b, .string t] #[.int .i64 k', .int .u64 b', .string t'] h27 (by kernel_rfl)
  rw [run_eql_struct, show (10000 : Nat) = 9999 + 1 from rfl, e, hf]
  have e0 : ∀ w, (Op.equalIn 9999 3 (.int .i64 k) (.int .i64 k')).run Tryd.prog w = .ok (k == k') w := fun w => run_equalIn_int w 9998 3 .i64 .i64 k k' Tryd.underlying3
  have e1 : ∀ w, (Op.equalIn 9999 31 (.int .u64 b) (.int .u64 b')).run Tryd.prog w = .ok ((b : Int) == (b' : Int)) w := fun w => run_equalIn_int w 9998 31 .u64 .u64 _ _ Tryd.underlying31
  have e2 : ∀ w, (Op.equalIn 9999 9 (.string t) (.string t')).run Tryd.prog w = .ok (t.toList == t'.toList) w := fun w => run_equalIn_string w 9998 9 t t' Tryd.underlying9
  have p0 : ∀ (x y z : Value) w, (part 3 #[x, y, z] 0).run Tryd.prog w = .ok x w := fun x y z w => by rfl
  have p1 : ∀ (x y z : Value) w, (part 31 #[x, y, z] 1).run Tryd.prog w = .ok y w := fun x y z w => by rfl
  have p2 : ∀ (x y z : Value) w, (part 9 #[x, y, z] 2).run Tryd.prog w = .ok z w := fun x y z w => by rfl
  generalize hd : (9999 : Nat) = d at *
  clear hd e
  by_cases hk : k = k'
  · subst hk
    by_cases hb : b = b'
    · subst hb
      by_cases ht : t.toList = t'.toList
      · simp [Op.eqFields, e0, e1, e2, p0, p1, p2, ht]
      · simp [Op.eqFields, e0, e1, e2, p0, p1, p2, ht]
    · simp [Op.eqFields, e0, e1, e2, p0, p1, p2, hb]
      exact fun h => absurd (by omega) hb
  · simp [Op.eqFields, e0, e1, e2, p0, p1, p2, hk]
end V
end Go.Proofs.YtjofjpmhokjhnaaDoor
