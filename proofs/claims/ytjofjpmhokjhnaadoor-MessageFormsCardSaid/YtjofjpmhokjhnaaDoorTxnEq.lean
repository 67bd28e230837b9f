/- The runs of '==' and '!=' between ids, reads, writes. No condition. -/
import Derived.Test.YtjofjpmhokjhnaaDoorTxn
namespace Go.Proofs.YtjofjpmhokjhnaaDoor
set_option maxRecDepth 20000
open Go.RowKit
set_option linter.unusedSimpArgs false
set_option linter.unusedVariables false
namespace T
theorem fId : (Tryd.prog.fieldsOf 26).toList = [{ name := "Session", type := 3, offset := 0, embedded := false, tag := "", pkgPath := "", byteOffset := 0 },
    { name := "Seq", type := 3, offset := 1, embedded := false, tag := "", pkgPath := "", byteOffset := 8 }] := by kernel_rfl
theorem fRd : (Tryd.prog.fieldsOf 147).toList = [{ name := "Key", type := 9, offset := 0, embedded := false, tag := "", pkgPath := "", byteOffset := 0 },
    { name := "Version", type := 31, offset := 1, embedded := false, tag := "", pkgPath := "", byteOffset := 16 }] := by kernel_rfl
theorem fWr : (Tryd.prog.fieldsOf 140).toList = [{ name := "Key", type := 9, offset := 0, embedded := false, tag := "", pkgPath := "", byteOffset := 0 },
    { name := "Value", type := 35, offset := 1, embedded := false, tag := "", pkgPath := "", byteOffset := 16 }] := by kernel_rfl
theorem fVal : (Tryd.prog.fieldsOf 35).toList = [{ name := "Kind", type := 3, offset := 0, embedded := false, tag := "", pkgPath := "", byteOffset := 0 },
    { name := "Bits", type := 31, offset := 1, embedded := false, tag := "", pkgPath := "", byteOffset := 8 },
    { name := "Text", type := 9, offset := 2, embedded := false, tag := "", pkgPath := "", byteOffset := 16 }] := by kernel_rfl
theorem eqId (d : Nat) (s q s' q' : Int) (w : World) :
    (Op.equalIn (d + 2) 26 (.agg #[.int .i64 s, .int .i64 q]) (.agg #[.int .i64 s', .int .i64 q'])).run Tryd.prog w = .ok (decide (s = s' ∧ q = q')) w := by
  have hu : Tryd.prog.underlying 26 = some (.struct (Tryd.prog.fieldsOf 26)) := by kernel_rfl
  rw [run_equalIn_struct (P := Tryd.prog) w (d + 1) 26 _ _ hu (by kernel_rfl), fId]
  have e0 : ∀ w, (Op.equalIn (d + 1) 3 (.int .i64 s) (.int .i64 s')).run Tryd.prog w = .ok (s == s') w := fun w => run_equalIn_int w d 3 .i64 .i64 s s' Tryd.underlying3
  have e1 : ∀ w, (Op.equalIn (d + 1) 3 (.int .i64 q) (.int .i64 q')).run Tryd.prog w = .ok (q == q') w := fun w => run_equalIn_int w d 3 .i64 .i64 q q' Tryd.underlying3
  have p0 : ∀ (x y : Value) w, (part 3 #[x, y] 0).run Tryd.prog w = .ok x w := fun x y w => by rfl
  have p1 : ∀ (x y : Value) w, (part 3 #[x, y] 1).run Tryd.prog w = .ok y w := fun x y w => by rfl
  generalize hd : d + 1 = d1 at *
  clear hd
  by_cases hs : s = s'
  · subst hs
    by_cases hq : q = q'
    · subst hq; simp [Op.eqFields, e0, e1, p0, p1]
    · simp [Op.eqFields, e0, e1, p0, p1, hq]
  · simp [Op.eqFields, e0, e1, p0, p1, hs]
theorem run_eqId (s q s' q' : Int) (w : World) :
    (binOp .eql 26 (.agg #[.int .i64 s, .int .i64 q]) (.agg #[.int .i64 s', .int .i64 q'])).run Tryd.prog w = .ok (.bool (decide (s = s' ∧ q = q'))) w := by
  rw [run_eql_struct, show (10000 : Nat) = 9998 + 2 from rfl, eqId]; rfl
theorem run_neId (s q s' q' : Int) (w : World) :
    (binOp .neq 26 (.agg #[.int .i64 s, .int .i64 q]) (.agg #[.int .i64 s', .int .i64 q'])).run Tryd.prog w = .ok (.bool (!decide (s = s' ∧ q = q'))) w := by
  rw [run_neq_struct, show (10000 : Nat) = 9998 + 2 from rfl, eqId]; rfl
theorem eqRd (d : Nat) (k : ByteArray) (b : Nat) (k' : ByteArray) (b' : Nat) (w : World) :
    (Op.equalIn (d + 2) 147 (.agg #[.string k, .int .u64 b]) (.agg #[.string k', .int .u64 b'])).run Tryd.prog w = .ok (decide (k.toList = k'.toList ∧ b = b')) w := by
  have hu : Tryd.prog.underlying 147 = some (.struct (Tryd.prog.fieldsOf 147)) := by kernel_rfl
  rw [run_equalIn_struct (P := Tryd.prog) w (d + 1) 147 _ _ hu (by kernel_rfl), fRd]
  have e0 : ∀ w, (Op.equalIn (d + 1) 9 (.string k) (.string k')).run Tryd.prog w = .ok (k.toList == k'.toList) w := fun w => run_equalIn_string w d 9 k k' Tryd.underlying9
  have e1 : ∀ w, (Op.equalIn (d + 1) 31 (.int .u64 b) (.int .u64 b')).run Tryd.prog w = .ok ((b : Int) == (b' : Int)) w := fun w => run_equalIn_int w d 31 .u64 .u64 _ _ Tryd.underlying31
  have p0 : ∀ (x y : Value) w, (part 9 #[x, y] 0).run Tryd.prog w = .ok x w := fun x y w => by rfl
  have p1 : ∀ (x y : Value) w, (part 31 #[x, y] 1).run Tryd.prog w = .ok y w := fun x y w => by rfl
  generalize hd : d + 1 = d1 at *
  clear hd
  by_cases hk : k.toList = k'.toList
  · by_cases hb : b = b'
    · subst hb; simp [Op.eqFields, e0, e1, p0, p1, hk]
    · have : ¬ (b : Int) = (b' : Int) := by omega
      simp [Op.eqFields, e0, e1, p0, p1, hk, hb, this]
  · simp [Op.eqFields, e0, e1, p0, p1, hk]
theorem run_neRd (k : ByteArray) (b : Nat) (k' : ByteArray) (b' : Nat) (w : World) :
    (binOp .neq 147 (.agg #[.string k, .int .u64 b]) (.agg #[.string k', .int .u64 b'])).run Tryd.prog w = .ok (.bool (!decide (k.toList = k'.toList ∧ b = b'))) w := by
  rw [run_neq_struct, show (10000 : Nat) = 9998 + 2 from rfl, eqRd]; rfl
theorem eqVal (d : Nat) (k : Int) (b : Nat) (t : ByteArray) (k' : Int) (b' : Nat) (t' : ByteArray) (w : World) :
    (Op.equalIn (d + 2) 35 (.agg #[.int .i64 k, .int .u64 b, .string t]) (.agg #[.int .i64 k', .int .u64 b', .string t'])).run Tryd.prog w = .ok (decide (k = k' ∧ b = b' ∧ t.toList = t'.toList)) w := by
  have hu : Tryd.prog.underlying 35 = some (.struct (Tryd.prog.fieldsOf 35)) := by kernel_rfl
  rw [run_equalIn_struct (P := Tryd.prog) w (d + 1) 35 _ _ hu (by kernel_rfl), fVal]
  have e0 : ∀ w, (Op.equalIn (d + 1) 3 (.int .i64 k) (.int .i64 k')).run Tryd.prog w = .ok (k == k') w := fun w => run_equalIn_int w d 3 .i64 .i64 k k' Tryd.underlying3
  have e1 : ∀ w, (Op.equalIn (d + 1) 31 (.int .u64 b) (.int .u64 b')).run Tryd.prog w = .ok ((b : Int) == (b' : Int)) w := fun w => run_equalIn_int w d 31 .u64 .u64 _ _ Tryd.underlying31
  have e2 : ∀ w, (Op.equalIn (d + 1) 9 (.string t) (.string t')).run Tryd.prog w = .ok (t.toList == t'.toList) w := fun w => run_equalIn_string w d 9 t t' Tryd.underlying9
  have p0 : ∀ (x y z : Value) w, (part 3 #[x, y, z] 0).run Tryd.prog w = .ok x w := fun x y z w => by rfl
  have p1 : ∀ (x y z : Value) w, (part 31 #[x, y, z] 1).run Tryd.prog w = .ok y w := fun x y z w => by rfl
  have p2 : ∀ (x y z : Value) w, (part 9 #[x, y, z] 2).run Tryd.prog w = .ok z w := fun x y z w => by rfl
  generalize hd : d + 1 = d1 at *
  clear hd
  by_cases hk : k = k'
  · subst hk
    by_cases hb : b = b'
    · subst hb
      by_cases ht : t.toList = t'.toList
      · simp [Op.eqFields, e0, e1, e2, p0, p1, p2, ht]
      · simp [Op.eqFields, e0, e1, e2, p0, p1, p2, ht]
    · simp [Op.eqFields, e0, e1, e2, p0, p1, p2, hb]
      exact fun h => absurd (by omega) hb
  · simp [Op.eqFields, e0, e1, e2, p0, p1, p2, hk]
theorem eqWr (d : Nat) (y : ByteArray) (k : Int) (b : Nat) (t : ByteArray) (y' : ByteArray) (k' : Int) (b' : Nat) (t' : ByteArray) (w : World) :
    (Op.equalIn (d + 3) 140 (.agg #[.string y, .int .i64 k, .int .u64 b, .string t]) (.agg #[.string y', .int .i64 k', .int .u64 b', .string t'])).run Tryd.prog w = .ok (decide (y.toList = y'.toList ∧ k = k' ∧ b = b' ∧ t.toList = t'.toList)) w := by
  have hu : Tryd.prog.underlying 140 = some (.struct (Tryd.prog.fieldsOf 140)) := by kernel_rfl
  rw [run_equalIn_struct (P := Tryd.prog) w (d + 2) 140 _ _ hu (by kernel_rfl), fWr]
  have e0 : ∀ w, (Op.equalIn (d + 2) 9 (.string y) (.string y')).run Tryd.prog w = .ok (y.toList == y'.toList) w := fun w => run_equalIn_string w (d + 1) 9 y y' Tryd.underlying9
  have e1 := fun w => eqVal d k b t k' b' t' w
  have p0 : ∀ (x y z u : Value) w, (part 9 #[x, y, z, u] 0).run Tryd.prog w = .ok x w := fun x y z u w => by rfl
  have p1 : ∀ (x y z u : Value) w, (part 35 #[x, y, z, u] 1).run Tryd.prog w = .ok (.agg #[y, z, u]) w := fun x y z u w => by rfl
  generalize hd : d + 2 = d1 at *
  clear hd
  rw [show decide (y.toList = y'.toList ∧ k = k' ∧ b = b' ∧ t.toList = t'.toList) = (decide (y.toList = y'.toList) && decide (k = k' ∧ b = b' ∧ t.toList = t'.toList)) from Bool.decide_and _ _]
  generalize decide (k = k' ∧ b = b' ∧ t.toList = t'.toList) = p at *
  by_cases hk : y.toList = y'.toList
  · cases p <;> simp [Op.eqFields, e0, e1, p0, p1, hk]
  · simp [Op.eqFields, e0, e1, p0, p1, hk]
theorem run_neWr (y : ByteArray) (k : Int) (b : Nat) (t : ByteArray) (y' : ByteArray) (k' : Int) (b' : Nat) (t' : ByteArray) (w : World) :
    (binOp .neq 140 (.agg #[.string y, .int .i64 k, .int .u64 b, .string t]) (.agg #[.string y', .int .i64 k', .int .u64 b', .string t'])).run Tryd.prog w = .ok (.bool (!decide (y.toList = y'.toList ∧ k = k' ∧ b = b' ∧ t.toList = t'.toList))) w := by
  rw [run_neq_struct, show (10000 : Nat) = 9997 + 3 from rfl, eqWr]; rfl
end T
end Go.Proofs.YtjofjpmhokjhnaaDoor
