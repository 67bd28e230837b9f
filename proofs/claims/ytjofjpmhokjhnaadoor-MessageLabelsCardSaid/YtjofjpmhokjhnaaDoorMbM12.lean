/- Messages as one value each. Conditions: what lies, lies below. (Printed by gen_msg.py.) -/
import Derived.Test.YtjofjpmhokjhnaaDoorMbM9
import Derived.Test.YtjofjpmhokjhnaaDoorMbM1
import Derived.Test.YtjofjpmhokjhnaaDoorMbM8
import Derived.Test.YtjofjpmhokjhnaaDoorMbM4
import Derived.Lib.OthersKept
namespace Go.Proofs.YtjofjpmhokjhnaaDoor
set_option maxRecDepth 20000
open Go.RowKit Go.ChangeShapes Go.WideShapes Go.ChangeAt T
set_option linter.unusedSimpArgs false
set_option linter.unusedVariables false
section
variable {W : World} {v : Value}
theorem Arg.cmd (h : Arg W 33 v) :
    ∃ (k s q : Int) (rs : List Rd1) (ws : List Wr1) (A1 : Option Addr) (c1 : Nat) (A2 : Option Addr) (c2 : Nat) (i j g : Int) (st : Nat) (y : Bool),
    v = .agg #[.int .i64 k, .int .i64 s, .int .i64 q, .slice A1 rs.length c1, .slice A2 ws.length c2, .int .i64 i, .int .i64 j, .int .i64 g, .int .u64 (st : Int), .bool y] ∧ TxOk W W.heap.size rs ws A1 c1 A2 c2 ∧ st < 18446744073709551616 ∧
      (-9223372036854775808 ≤ k ∧ k ≤ 9223372036854775807) ∧ (-9223372036854775808 ≤ g ∧ g ≤ 9223372036854775807) := by
  obtain ⟨cs, rfl, hc⟩ := h.struct Tryd.underlying33
  obtain ⟨k, s, q, rs, ws, A1, c1, A2, c2, i, j, g, st, y, e, r⟩ := hc.cmd Tryd.underlying33 (by kernel_rfl) (by rfl) (by rfl) (by rfl) (by rfl) (by rfl) (by rfl)
  refine ⟨k, s, q, rs, ws, A1, c1, A2, c2, i, j, g, st, y, ?_, r⟩
  congr 1
  apply Array.ext'
  exact e
end
end Go.Proofs.YtjofjpmhokjhnaaDoor

namespace Go.Proofs.YtjofjpmhokjhnaaDoor
set_option maxRecDepth 20001
open Go.RowKit Go.ChangeShapes Go.WideShapes Go.ChangeAt T
set_option linter.unusedSimpArgs false
set_option linter.unusedVariables false
section
variable {W : World} {cs : List Value} {v : Value}
theorem Cel.cm (h : Cel W 33 cs) : ∃ x : Cm, cs = x.cells ∧ CmOk W W.heap.size x := by
  obtain ⟨k, s, q, rs, ws, A1, c1, A2, c2, i, j, g, st, y, e, r, _⟩ := h.cmd Tryd.underlying33 (by kernel_rfl) (by rfl) (by rfl) (by rfl) (by rfl) (by rfl) (by rfl)
  exact ⟨⟨k, s, q, rs, ws, A1, c1, A2, c2, i, j, g, st, y⟩, e, r⟩
theorem Arg.cm (h : Arg W 33 v) : ∃ x : Cm, v = .agg x.cells.toArray ∧ CmOk W W.heap.size x := by
  obtain ⟨⟨cs⟩, rfl, hc⟩ := h.struct Tryd.underlying33
  obtain ⟨x, hx, r⟩ := Cel.cm hc
  exact ⟨x, by rw [show cs = x.cells from hx], r⟩
instance : Inhabited Cm := ⟨Cm.zero⟩
end
end Go.Proofs.YtjofjpmhokjhnaaDoor

namespace Go.Proofs.YtjofjpmhokjhnaaDoor
set_option maxRecDepth 20001
open Go.RowKit
set_option linter.unusedSimpArgs false
set_option linter.unusedVariables false

namespace B
def formed (n : Int) : Bool := decide (0 ≤ n) && decide (n < 5)
end B
/-- a ballot as a value -/
abbrev bal (r : Nat) (n : Int) : Value := .agg #[.int .u32 (r : Int), .int .i64 n]

set_option maxHeartbeats 400000 in
theorem bformed_any (r : Nat) (n : Int) (w : World) :
    Calls Tryd.prog 44 #[bal r n] w fun e w' => e = .returned (.bool (B.formed n)) ∧ Below w.heap.size w w' := by
  go_enter Tryd.func44, Tryd.ntmps44
  go_wp2
  all_goals
    go_ret
    exact ⟨ret_bool (by unfold B.formed; first | rfl | (simp; omega) | (rw [Bool.eq_iff_iff]; simp)), (Below.refl _ _).alloc (Nat.le_refl _) _⟩
theorem cellsBal : Tryd.prog.cellsOf 24 = 2 := by kernel_rfl
theorem cellsU32 : Tryd.prog.cellsOf 22 = 1 := by kernel_rfl
theorem cellsInt6 : Tryd.prog.cellsOf 3 = 1 := by kernel_rfl
theorem Cel.bal {W : World} {cs : List Value} (h : Cel W 24 cs) : ∃ (r : Nat) (n : Int), cs = [.int .u32 (r : Int), .int .i64 n] ∧ r < 4294967296 ∧ -9223372036854775808 ≤ n ∧ n ≤ 9223372036854775807 := by
  have hl := h.len Tryd.underlying24
  rw [cellsBal] at hl
  match cs, hl with
  | [a, b], _ =>
    obtain ⟨x0, e0, hx⟩ := (h.field1 Tryd.underlying24 0 0 22 _ rfl rfl rfl cellsU32 a rfl).u32 Tryd.underlying22
    obtain ⟨x1, e1, hy⟩ := (h.field1 Tryd.underlying24 1 1 3 _ rfl rfl rfl cellsInt6 b rfl).i64 Tryd.underlying3
    simp at e0 e1
    subst e0; subst e1
    exact ⟨x0, x1, rfl, hx, hy⟩
theorem Arg.bal {W : World} {v : Value} (h : Arg W 24 v) : ∃ (r : Nat) (n : Int), v = bal r n ∧ r < 4294967296 ∧ -9223372036854775808 ≤ n ∧ n ≤ 9223372036854775807 := by
  obtain ⟨⟨cs⟩, rfl, hc⟩ := h.struct Tryd.underlying24
  obtain ⟨r, n, rfl, hb⟩ := hc.bal
  exact ⟨r, n, rfl, hb⟩
namespace B
theorem fBal : (Tryd.prog.fieldsOf 24).toList = [{ name := "Round", type := 22, offset := 0, embedded := false, tag := "", pkgPath := "", byteOffset := 0 },
    { name := "Node", type := 3, offset := 1, embedded := false, tag := "", pkgPath := "", byteOffset := 8 }] := by kernel_rfl
theorem eqBal (d : Nat) (r : Nat) (n : Int) (r' : Nat) (n' : Int) (w : World) :
    (Op.equalIn (d + 2) 24 (.agg #[.int .u32 r, .int .i64 n]) (.agg #[.int .u32 r', .int .i64 n'])).run Tryd.prog w = .ok (decide (r = r' ∧ n = n')) w := by
  have hu : Tryd.prog.underlying 24 = some (.struct (Tryd.prog.fieldsOf 24)) := by kernel_rfl
  rw [run_equalIn_struct (P := Tryd.prog) w (d + 1) 24 _ _ hu (by kernel_rfl), fBal]
  have e0 : ∀ w, (Op.equalIn (d + 1) 22 (.int .u32 r) (.int .u32 r')).run Tryd.prog w = .ok ((r : Int) == (r' : Int)) w := fun w => run_equalIn_int w d 22 .u32 .u32 _ _ Tryd.underlying22
  have e1 : ∀ w, (Op.equalIn (d + 1) 3 (.int .i64 n) (.int .i64 n')).run Tryd.prog w = .ok (n == n') w := fun w => run_equalIn_int w d 3 .i64 .i64 n n' Tryd.underlying3
  have p0 : ∀ (x y : Value) w, (part 22 #[x, y] 0).run Tryd.prog w = .ok x w := fun x y w => by rfl
  have p1 : ∀ (x y : Value) w, (part 3 #[x, y] 1).run Tryd.prog w = .ok y w := fun x y w => by rfl
  generalize hd : d + 1 = d1 at *
  clear hd
  by_cases hs : r = r'
  · subst hs
    by_cases hq : n = n'
    · subst hq; simp [Op.eqFields, e0, e1, p0, p1]
    · simp [Op.eqFields, e0, e1, p0, p1, hq]
  · have : ¬ (r : Int) = (r' : Int) := by omega
    simp [Op.eqFields, e0, e1, p0, p1, hs, this]
theorem run_eqBal (r : Nat) (n : Int) (r' : Nat) (n' : Int) (w : World) :
    (binOp .eql 24 (.agg #[.int .u32 r, .int .i64 n]) (.agg #[.int .u32 r', .int .i64 n'])).run Tryd.prog w = .ok (.bool (decide (r = r' ∧ n = n'))) w := by
  rw [run_eql_struct, show (10000 : Nat) = 9998 + 2 from rfl, eqBal]; rfl
end B
namespace B
theorem fRBal : (Tryd.prog.fieldsOf 44).toList = [{ name := "Round", type := 22, offset := 0, embedded := false, tag := "", pkgPath := "", byteOffset := 0 },
    { name := "Node", type := 3, offset := 1, embedded := false, tag := "", pkgPath := "", byteOffset := 8 }] := by kernel_rfl
theorem eqRBal (d : Nat) (r : Nat) (n : Int) (r' : Nat) (n' : Int) (w : World) :
    (Op.equalIn (d + 2) 44 (.agg #[.int .u32 r, .int .i64 n]) (.agg #[.int .u32 r', .int .i64 n'])).run Tryd.prog w = .ok (decide (r = r' ∧ n = n')) w := by
  have hu : Tryd.prog.underlying 44 = some (.struct (Tryd.prog.fieldsOf 44)) := by kernel_rfl
  rw [run_equalIn_struct (P := Tryd.prog) w (d + 1) 44 _ _ hu (by kernel_rfl), fRBal]
  have e0 : ∀ w, (Op.equalIn (d + 1) 22 (.int .u32 r) (.int .u32 r')).run Tryd.prog w = .ok ((r : Int) == (r' : Int)) w := fun w => run_equalIn_int w d 22 .u32 .u32 _ _ Tryd.underlying22
  have e1 : ∀ w, (Op.equalIn (d + 1) 3 (.int .i64 n) (.int .i64 n')).run Tryd.prog w = .ok (n == n') w := fun w => run_equalIn_int w d 3 .i64 .i64 n n' Tryd.underlying3
  have p0 : ∀ (x y : Value) w, (part 22 #[x, y] 0).run Tryd.prog w = .ok x w := fun x y w => by rfl
  have p1 : ∀ (x y : Value) w, (part 3 #[x, y] 1).run Tryd.prog w = .ok y w := fun x y w => by rfl
  generalize hd : d + 1 = d1 at *
  clear hd
  by_cases hs : r = r'
  · subst hs
    by_cases hq : n = n'
    · subst hq; simp [Op.eqFields, e0, e1, p0, p1]
    · simp [Op.eqFields, e0, e1, p0, p1, hq]
  · have : ¬ (r : Int) = (r' : Int) := by omega
    simp [Op.eqFields, e0, e1, p0, p1, hs, this]
theorem run_eqRBal (r : Nat) (n : Int) (r' : Nat) (n' : Int) (w : World) :
    (binOp .eql 44 (.agg #[.int .u32 r, .int .i64 n]) (.agg #[.int .u32 r', .int .i64 n'])).run Tryd.prog w = .ok (.bool (decide (r = r' ∧ n = n'))) w := by
  rw [run_eql_struct, show (10000 : Nat) = 9998 + 2 from rfl, eqRBal]; rfl
end B
end Go.Proofs.YtjofjpmhokjhnaaDoor

namespace Go.Proofs.YtjofjpmhokjhnaaDoor
set_option maxRecDepth 20001
open Go.RowKit T
set_option linter.unusedSimpArgs false
set_option linter.unusedVariables false

namespace T
/-- a transaction -/
structure Tn where
  s : Int
  q : Int
  rs : List Rd1
  ws : List Wr1
  A1 : Option Addr
  c1 : Nat
  A2 : Option Addr
  c2 : Nat
def Tn.cells (x : Tn) : List Value := [.int .i64 x.s, .int .i64 x.q, .slice x.A1 x.rs.length x.c1, .slice x.A2 x.ws.length x.c2]
def Tn.zero : Tn := ⟨0, 0, [], [], none, 0, none, 0⟩
/-- a message -/
structure Ms where
  kd : Int
  br : Nat
  bn : Int
  sl : Int
  ha : Bool
  vr : Nat
  vn : Int
  c : Cm
  t : Tn
  ii : Int
  ij : Int
  g : Int
  st : Nat
  ye : Bool
  nu : Int
  ky : ByteArray
  ve : Nat
  vk : Int
  vb : Nat
  vt : ByteArray
  er : Int
  dt : List UInt8
  D : Option Addr
  dc : Nat
def Ms.cells (m : Ms) : List Value := [.int .i64 m.kd, .int .u32 (m.br : Int), .int .i64 m.bn, .int .i64 m.sl, .bool m.ha, .int .u32 (m.vr : Int), .int .i64 m.vn, .int .i64 m.c.k, .int .i64 m.c.s, .int .i64 m.c.q, .slice m.c.A1 m.c.rs.length m.c.c1, .slice m.c.A2 m.c.ws.length m.c.c2, .int .i64 m.c.i, .int .i64 m.c.j, .int .i64 m.c.g, .int .u64 (m.c.st : Int), .bool m.c.y, .int .i64 m.t.s, .int .i64 m.t.q, .slice m.t.A1 m.t.rs.length m.t.c1, .slice m.t.A2 m.t.ws.length m.t.c2, .int .i64 m.ii, .int .i64 m.ij, .int .i64 m.g, .int .u64 (m.st : Int), .bool m.ye, .int .i64 m.nu, .string m.ky, .int .u64 (m.ve : Int), .int .i64 m.vk, .int .u64 (m.vb : Int), .string m.vt, .int .i64 m.er, .slice m.D m.dt.length m.dc]
def Ms.zero (k : Int) : Ms := ⟨k, 0, 0, 0, false, 0, 0, Cm.zero, Tn.zero, 0, 0, 0, 0, false, 0, ByteArray.empty, 0, 0, 0, ByteArray.empty, 0, [], none, 0⟩
end T
theorem Ms.one (m : Ms) : m.cells.toArray.all (·.oneCell') = true := by simp [Ms.cells, Value.oneCell']
theorem Ms.cells_len (m : Ms) : m.cells.length = 34 := rfl
theorem Tn.one (x : Tn) : x.cells.toArray.all (·.oneCell') = true := by simp [Tn.cells, Value.oneCell']
theorem sizeMs : (Tryd.prog.info? 39).map (·.size) = some 34 := by kernel_rfl
theorem sizeTn : (Tryd.prog.info? 30).map (·.size) = some 4 := by kernel_rfl
theorem sizeId : (Tryd.prog.info? 26).map (·.size) = some 2 := by kernel_rfl
theorem sizeVal : (Tryd.prog.info? 35).map (·.size) = some 3 := by kernel_rfl
theorem sizeBal : (Tryd.prog.info? 24).map (·.size) = some 2 := by kernel_rfl
theorem Ms.pb (m : Ms) : ∀ j v, ([.int .u32 (m.br : Int), .int .i64 m.bn] : List Value)[j]? = some v → m.cells[1 + j]? = some v := fun j v h => by
  match j, h with
  | 0, h => exact h
  | 1, h => exact h
  | n + 2, h => simp [Cm.cells, Tn.cells] at h
theorem Ms.pv (m : Ms) : ∀ j v, ([.int .u32 (m.vr : Int), .int .i64 m.vn] : List Value)[j]? = some v → m.cells[5 + j]? = some v := fun j v h => by
  match j, h with
  | 0, h => exact h
  | 1, h => exact h
  | n + 2, h => simp [Cm.cells, Tn.cells] at h
theorem Ms.pc (m : Ms) : ∀ j v, (m.c.cells : List Value)[j]? = some v → m.cells[7 + j]? = some v := fun j v h => by
  match j, h with
  | 0, h => exact h
  | 1, h => exact h
  | 2, h => exact h
  | 3, h => exact h
  | 4, h => exact h
  | 5, h => exact h
  | 6, h => exact h
  | 7, h => exact h
  | 8, h => exact h
  | 9, h => exact h
  | n + 10, h => simp [Cm.cells, Tn.cells] at h
theorem Ms.pt (m : Ms) : ∀ j v, (m.t.cells : List Value)[j]? = some v → m.cells[17 + j]? = some v := fun j v h => by
  match j, h with
  | 0, h => exact h
  | 1, h => exact h
  | 2, h => exact h
  | 3, h => exact h
  | n + 4, h => simp [Cm.cells, Tn.cells] at h
theorem Ms.pi (m : Ms) : ∀ j v, ([.int .i64 m.ii, .int .i64 m.ij] : List Value)[j]? = some v → m.cells[21 + j]? = some v := fun j v h => by
  match j, h with
  | 0, h => exact h
  | 1, h => exact h
  | n + 2, h => simp [Cm.cells, Tn.cells] at h
theorem Ms.px (m : Ms) : ∀ j v, ([.int .i64 m.vk, .int .u64 (m.vb : Int), .string m.vt] : List Value)[j]? = some v → m.cells[29 + j]? = some v := fun j v h => by
  match j, h with
  | 0, h => exact h
  | 1, h => exact h
  | 2, h => exact h
  | n + 3, h => simp [Cm.cells, Tn.cells] at h
theorem res_c {P : Program} {fn : Func} {p : Tmp} {ty : TypeId} (h : fn.results = #[.cell p ty]) {tmps : Array Value} {w : World} {g : Nat} {t : TypeId} {cs : List Value} {d : TypeDesc}
    (hp : tmps.getD p undef = .pointer (some ⟨g, 0, none⟩)) (hg : w.heap[g]? = some (.cells cs.toArray t (0, 0)))
    (hu : P.underlying ty = some d) (hd : d.isRow = true) (hi : (P.info? ty).map (·.size) = some cs.length) : (results fn tmps).run P w = .ok (.agg cs.toArray) w := by
  have hp' : tmps[p]?.getD undef = .pointer (some ⟨g, 0, none⟩) := by simpa using hp
  simp [results, h, hp', asAddr, run_loadVar_mid w g 0 ty cs d (rowAt hg) hu hd hi]
/-- where a message's parts lie -/
structure MsOk (w : World) (B : Nat) (m : Ms) : Prop where
  c : CmOk w B m.c
  t : TxOk w B m.t.rs m.t.ws m.t.A1 m.t.c1 m.t.A2 m.t.c2
  d : Rd w B m.D (bc m.dt)
  dl : m.dt.length ≤ m.dc
  dm : m.dc ≤ maxLen
  dn : m.D = none → m.dt = [] ∧ m.dc = 0
  ks : m.ky.size ≤ 9223372036854775807
  ts : m.vt.size ≤ 9223372036854775807
  br : m.br < 4294967296
  vr : m.vr < 4294967296
  vb : m.vb < 18446744073709551616
  ve : m.ve < 18446744073709551616
  st : m.st < 18446744073709551616
theorem MsOk.below {w w' : World} {B B' : Nat} {m : Ms} (h : MsOk w B m) (hb : Below B' w w') (hB : B ≤ B') : MsOk w' B m := { h with c := h.c.below hb hB, t := h.t.below hb hB, d := h.d.below (hb.mono hB) }
theorem MsOk.more {w : World} {B B' : Nat} {m : Ms} (h : MsOk w B m) (hB : B ≤ B') : MsOk w B' m := { h with c := h.c.more hB, t := h.t.more hB, d := h.d.more hB }
section
open Go.ChangeShapes Go.WideShapes Go.ChangeAt
variable {W : World} {cs : List Value} {v : Value}
theorem list34 {α : Type} (cs : List α) (h : cs.length = 34) : ∃ a b : List α, a.length = 17 ∧ b.length = 17 ∧ cs = a ++ b := ⟨cs.take 17, cs.drop 17, by simp [h], by simp [h], (List.take_append_drop 17 cs).symm⟩
theorem Cel.id9 (h : Cel W 26 cs) : ∃ i j : Int, cs = [.int .i64 i, .int .i64 j] := by
  have hl := h.len Tryd.underlying26
  rw [show Tryd.prog.cellsOf 26 = 2 by kernel_rfl] at hl
  match cs, hl with
  | [a, b], _ =>
    obtain ⟨i, e0, _⟩ := (h.field1 Tryd.underlying26 0 0 3 _ rfl rfl rfl (by kernel_rfl) a rfl).i64 Tryd.underlying3
    obtain ⟨j, e1, _⟩ := (h.field1 Tryd.underlying26 1 1 3 _ rfl rfl rfl (by kernel_rfl) b rfl).i64 Tryd.underlying3
    cases e0; cases e1
    exact ⟨i, j, rfl⟩
theorem Cel.ms (h : Cel W 39 cs) : ∃ m : Ms, cs = m.cells ∧ MsOk W W.heap.size m := by
  have hl := h.len Tryd.underlying39
  rw [show Tryd.prog.cellsOf 39 = 34 by kernel_rfl] at hl
  obtain ⟨xa, xb, ha_, hb_, rfl⟩ := list34 cs hl
  match xa, ha_, xb, hb_ with
  | [qq0, qq1, qq2, qq3, qq4, qq5, qq6, qq7, qq8, qq9, qq10, qq11, qq12, qq13, qq14, qq15, qq16], _, [qq17, qq18, qq19, qq20, qq21, qq22, qq23, qq24, qq25, qq26, qq27, qq28, qq29, qq30, qq31, qq32, qq33], _ =>
    have h : Cel W 39 [qq0, qq1, qq2, qq3, qq4, qq5, qq6, qq7, qq8, qq9, qq10, qq11, qq12, qq13, qq14, qq15, qq16, qq17, qq18, qq19, qq20, qq21, qq22, qq23, qq24, qq25, qq26, qq27, qq28, qq29, qq30, qq31, qq32, qq33] := h
    obtain ⟨kd, e0, _⟩ := (h.field1 Tryd.underlying39 0 0 3 _ rfl rfl rfl (by kernel_rfl) qq0 rfl).i64 Tryd.underlying3
    have hb := h.field Tryd.underlying39 1 _ rfl
    rw [show Tryd.prog.cellsOf _ = 2 by kernel_rfl] at hb
    obtain ⟨sl, e3, _⟩ := (h.field1 Tryd.underlying39 2 3 3 _ rfl rfl rfl (by kernel_rfl) qq3 rfl).i64 Tryd.underlying3
    obtain ⟨ha, e4⟩ := (h.field1 Tryd.underlying39 3 4 4 _ rfl rfl rfl (by kernel_rfl) qq4 rfl).bool Tryd.underlying4
    have hv := h.field Tryd.underlying39 4 _ rfl
    rw [show Tryd.prog.cellsOf _ = 2 by kernel_rfl] at hv
    have hc := h.field Tryd.underlying39 5 _ rfl
    rw [show Tryd.prog.cellsOf _ = 10 by kernel_rfl] at hc
    have ht := h.field Tryd.underlying39 6 _ rfl
    rw [show Tryd.prog.cellsOf _ = 4 by kernel_rfl] at ht
    have hi := h.field Tryd.underlying39 7 _ rfl
    rw [show Tryd.prog.cellsOf _ = 2 by kernel_rfl] at hi
    obtain ⟨g, e23, _⟩ := (h.field1 Tryd.underlying39 8 23 3 _ rfl rfl rfl (by kernel_rfl) qq23 rfl).i64 Tryd.underlying3
    obtain ⟨st, e24, hst⟩ := (h.field1 Tryd.underlying39 9 24 31 _ rfl rfl rfl (by kernel_rfl) qq24 rfl).u64 Tryd.underlying31
    obtain ⟨ye, e25⟩ := (h.field1 Tryd.underlying39 10 25 4 _ rfl rfl rfl (by kernel_rfl) qq25 rfl).bool Tryd.underlying4
    obtain ⟨nu, e26, _⟩ := (h.field1 Tryd.underlying39 11 26 3 _ rfl rfl rfl (by kernel_rfl) qq26 rfl).i64 Tryd.underlying3
    obtain ⟨ky, e27, hks⟩ := (h.field1 Tryd.underlying39 12 27 9 _ rfl rfl rfl (by kernel_rfl) qq27 rfl).string Tryd.underlying9
    obtain ⟨ve, e28, hve⟩ := (h.field1 Tryd.underlying39 13 28 31 _ rfl rfl rfl (by kernel_rfl) qq28 rfl).u64 Tryd.underlying31
    have hx := h.field Tryd.underlying39 14 _ rfl
    rw [show Tryd.prog.cellsOf _ = 3 by kernel_rfl] at hx
    obtain ⟨er, e32, _⟩ := (h.field1 Tryd.underlying39 15 32 36 _ rfl rfl rfl (by kernel_rfl) qq32 rfl).i64 Tryd.underlying36
    have hd := h.field Tryd.underlying39 16 _ rfl
    rw [show Tryd.prog.cellsOf _ = 1 by kernel_rfl] at hd
    obtain ⟨br, bn, eb, hbr, _⟩ := Cel.bal hb
    obtain ⟨vr, vn, ev, hvr, _⟩ := Cel.bal hv
    obtain ⟨x, ec, hcx⟩ := Cel.cm hc
    obtain ⟨ts, tq, rs, ws, A1, c1, A2, c2, et, htx⟩ := Cel.txn ht
    obtain ⟨ii, ij, ei⟩ := Cel.id9 hi
    obtain ⟨vk, vb, vt, ex, _, _, hvb, hvt⟩ := Cel.val hx
    have hd1 : Cel W 37 [qq33] := hd
    obtain ⟨A, n, c, e33⟩ := hd1.isSlice Tryd.underlying37
    rw [e33] at hd1
    obtain ⟨dt, r1, r2, r3, r4, r5, r6⟩ := Cel.rows (fun b : UInt8 => [Value.int .u8 (b.toNat : Int)]) (fun _ => True) hd1 Tryd.underlying37 (sz := 1) (by kernel_rfl) (by omega) (fun cs hcs => by
      obtain ⟨q, hq, hq8⟩ := hcs.u8 Tryd.underlying5
      refine ⟨UInt8.ofNat q, ?_, trivial⟩
      rw [hq, UInt8.toNat_ofNat', Nat.mod_eq_of_lt hq8])
    have hdr : Rd W W.heap.size A (bc dt) := fun j u hu => by
      unfold bc at hu
      rw [List.getElem?_map] at hu
      obtain ⟨b, hb, rfl⟩ := Option.map_eq_some_iff.1 hu
      obtain ⟨bl, off, e, hlt, hc⟩ := r5 j [.int .u8 (b.toNat : Int)] (by rw [List.getElem?_map, hb]; rfl)
      exact ⟨bl, off, e, hlt, by have := hc 0 _ rfl; simpa using this⟩
    have e34 : qq33 = .slice A dt.length c := by rw [e33, r1]
    have hdl : dt.length ≤ c := by omega
    have hdn : A = none → dt = [] ∧ c = 0 := fun h => by have := r4 h; exact ⟨List.eq_nil_of_length_eq_zero (by omega), by omega⟩
    refine ⟨⟨kd, br, bn, sl, ha, vr, vn, x, ⟨ts, tq, rs, ws, A1, c1, A2, c2⟩, ii, ij, g, st, ye, nu, ky, ve, vk, vb, vt, er, dt, A, c⟩, ?_, ⟨hcx, htx, hdr, hdl, r3, hdn, hks, hvt, hbr, hvr, hvb, hve, hst⟩⟩
    cases e0; cases e3; cases e4; cases e23; cases e24; cases e25; cases e26; cases e27; cases e28; cases e32
    have eb' : [qq1, qq2] = [.int .u32 (br : Int), .int .i64 bn] := eb
    have ev' : [qq5, qq6] = [.int .u32 (vr : Int), .int .i64 vn] := ev
    have ec' : [qq7, qq8, qq9, qq10, qq11, qq12, qq13, qq14, qq15, qq16] = x.cells := ec
    have et' : [qq17, qq18, qq19, qq20] = [.int .i64 ts, .int .i64 tq, .slice A1 rs.length c1, .slice A2 ws.length c2] := et
    have ei' : [qq21, qq22] = [.int .i64 ii, .int .i64 ij] := ei
    have ex' : [qq29, qq30, qq31] = [.int .i64 vk, .int .u64 (vb : Int), .string vt] := ex
    unfold Cm.cells at ec'
    simp only [List.cons.injEq, and_true] at eb' ev' ec' et' ei' ex'
    obtain ⟨rfl, rfl⟩ := eb'
    obtain ⟨rfl, rfl⟩ := ev'
    obtain ⟨rfl, rfl, rfl, rfl, rfl, rfl, rfl, rfl, rfl, rfl⟩ := ec'
    obtain ⟨rfl, rfl, rfl, rfl⟩ := et'
    obtain ⟨rfl, rfl⟩ := ei'
    obtain ⟨rfl, rfl, rfl⟩ := ex'
    subst e34
    rfl
theorem Arg.ms (h : Arg W 39 v) : ∃ m : Ms, v = .agg m.cells.toArray ∧ MsOk W W.heap.size m := by
  obtain ⟨⟨cs⟩, rfl, hc⟩ := h.struct Tryd.underlying39
  obtain ⟨x, hx, r⟩ := Cel.ms hc
  exact ⟨x, by rw [show cs = x.cells from hx], r⟩
end
end Go.Proofs.YtjofjpmhokjhnaaDoor
