/- Library functions that messages ask: bytes.Equal, strings.Contains at one byte (turned from the shelf's templates). Conditions: what lies, lies below. (Printed by gen_msg.py.) -/
import Derived.Test.YtjofjpmhokjhnaaDoorWlM12
import Derived.Test.YtjofjpmhokjhnaaDoorWlM2
import Derived.Test.YtjofjpmhokjhnaaDoorWlM11
import Derived.Test.YtjofjpmhokjhnaaDoorWlM3
import Derived.Lib.OthersKept
import Derived.Lib.Strings
import Derived.Lib.Slices
import Derived.Lib.Walk
import Derived.Lib.Bytealg
import Derived.Lib.Bytes
namespace Go.Proofs.YtjofjpmhokjhnaaDoor
set_option maxRecDepth 20000
open Go.RowKit T
set_option linter.unusedSimpArgs false
set_option linter.unusedVariables false

namespace T
/-- a transaction -/
structure Tn where
  s : Int
  q : Int
  rs : List Rd1
  ws : List Wr1
  A1 : Option Addr
  c1 : Nat
  A2 : Option Addr
  c2 : Nat
def Tn.cells (x : Tn) : List Value := [.int .i64 x.s, .int .i64 x.q, .slice x.A1 x.rs.length x.c1, .slice x.A2 x.ws.length x.c2]
def Tn.zero : Tn := ⟨0, 0, [], [], none, 0, none, 0⟩
/-- a message -/
structure Ms where
  kd : Int
  br : Nat
  bn : Int
  sl : Int
  ha : Bool
  vr : Nat
  vn : Int
  c : Cm
  t : Tn
  ii : Int
  ij : Int
  g : Int
  st : Nat
  ye : Bool
  nu : Int
  ky : ByteArray
  ve : Nat
  vk : Int
  vb : Nat
  vt : ByteArray
  er : Int
  dt : List UInt8
  D : Option Addr
  dc : Nat
def Ms.cells (m : Ms) : List Value := [.int .i64 m.kd, .int .u32 (m.br : Int), .int .i64 m.bn, .int .i64 m.sl, .bool m.ha, .int .u32 (m.vr : Int), .int .i64 m.vn, .int .i64 m.c.k, .int .i64 m.c.s, .int .i64 m.c.q, .slice m.c.A1 m.c.rs.length m.c.c1, .slice m.c.A2 m.c.ws.length m.c.c2, .int .i64 m.c.i, .int .i64 m.c.j, .int .i64 m.c.g, .int .u64 (m.c.st : Int), .bool m.c.y, .int .i64 m.t.s, .int .i64 m.t.q, .slice m.t.A1 m.t.rs.length m.t.c1, .slice m.t.A2 m.t.ws.length m.t.c2, .int .i64 m.ii, .int .i64 m.ij, .int .i64 m.g, .int .u64 (m.st : Int), .bool m.ye, .int .i64 m.nu, .string m.ky, .int .u64 (m.ve : Int), .int .i64 m.vk, .int .u64 (m.vb : Int), .string m.vt, .int .i64 m.er, .slice m.D m.dt.length m.dc]
def Ms.zero (k : Int) : Ms := ⟨k, 0, 0, 0, false, 0, 0, Cm.zero, Tn.zero, 0, 0, 0, 0, false, 0, ByteArray.empty, 0, 0, 0, ByteArray.empty, 0, [], none, 0⟩
end T
theorem Ms.one (m : Ms) : m.cells.toArray.all (·.oneCell') = true := by simp [Ms.cells, Value.oneCell']
theorem Tn.one (x : Tn) : x.cells.toArray.all (·.oneCell') = true := by simp [Tn.cells, Value.oneCell']
theorem sizeId : (Tryd.prog.info? 26).map (·.size) = some 2 := by kernel_rfl
theorem sizeBal : (Tryd.prog.info? 24).map (·.size) = some 2 := by kernel_rfl
theorem res_c {P : Program} {fn : Func} {p : Tmp} {ty : TypeId} (h : fn.results = #[.cell p ty]) {tmps : Array Value} {w : World} {g : Nat} {t : TypeId} {cs : List Value} {d : TypeDesc}
    (hp : tmps.getD p undef = .pointer (some ⟨g, 0, none⟩)) (hg : w.heap[g]? = some (.cells cs.toArray t (0, 0)))
    (hu : P.underlying ty = some d) (hd : d.isRow = true) (hi : (P.info? ty).map (·.size) = some cs.length) : (results fn tmps).run P w = .ok (.agg cs.toArray) w := by
  have hp' : tmps[p]?.getD undef = .pointer (some ⟨g, 0, none⟩) := by simpa using hp
  simp [results, h, hp', asAddr, run_loadVar_mid w g 0 ty cs d (rowAt hg) hu hd hi]
/-- where a message's parts lie -/
structure MsOk (w : World) (B : Nat) (m : Ms) : Prop where
  c : CmOk w B m.c
  t : TxOk w B m.t.rs m.t.ws m.t.A1 m.t.c1 m.t.A2 m.t.c2
  d : Rd w B m.D (bc m.dt)
  dl : m.dt.length ≤ m.dc
  dm : m.dc ≤ maxLen
  dn : m.D = none → m.dt = [] ∧ m.dc = 0
  ks : m.ky.size ≤ 9223372036854775807
  ts : m.vt.size ≤ 9223372036854775807
  br : m.br < 4294967296
  vr : m.vr < 4294967296
  vb : m.vb < 18446744073709551616
  ve : m.ve < 18446744073709551616
  st : m.st < 18446744073709551616
theorem MsOk.below {w w' : World} {B B' : Nat} {m : Ms} (h : MsOk w B m) (hb : Below B' w w') (hB : B ≤ B') : MsOk w' B m := { h with c := h.c.below hb hB, t := h.t.below hb hB, d := h.d.below (hb.mono hB) }
theorem MsOk.more {w : World} {B B' : Nat} {m : Ms} (h : MsOk w B m) (hB : B ≤ B') : MsOk w B' m := { h with c := h.c.more hB, t := h.t.more hB, d := h.d.more hB }
section
open Go.ChangeShapes Go.WideShapes Go.ChangeAt
variable {W : World} {cs : List Value} {v : Value}
theorem list34 {α : Type} (cs : List α) (h : cs.length = 34) : ∃ a b : List α, a.length = 17 ∧ b.length = 17 ∧ cs = a ++ b := ⟨cs.take 17, cs.drop 17, by simp [h], by simp [h], (List.take_append_drop 17 cs).symm⟩
theorem Cel.id9 (h : Cel W 26 cs) : ∃ i j : Int, cs = [.int .i64 i, .int .i64 j] := by
  have hl := h.len Tryd.underlying26
  rw [show Tryd.prog.cellsOf 26 = 2 by kernel_rfl] at hl
  match cs, hl with
  | [a, b], _ =>
    obtain ⟨i, e0, _⟩ := (h.field1 Tryd.underlying26 0 0 3 _ rfl rfl rfl (by kernel_rfl) a rfl).i64 Tryd.underlying3
    obtain ⟨j, e1, _⟩ := (h.field1 Tryd.underlying26 1 1 3 _ rfl rfl rfl (by kernel_rfl) b rfl).i64 Tryd.underlying3
    cases e0; cases e1
    exact ⟨i, j, rfl⟩
theorem Cel.ms (h : Cel W 39 cs) : ∃ m : Ms, cs = m.cells ∧ MsOk W W.heap.size m := by
  have hl := h.len Tryd.underlying39
  rw [show Tryd.prog.cellsOf 39 = 34 by kernel_rfl] at hl
  obtain ⟨xa, xb, ha_, hb_, rfl⟩ := list34 cs hl
  match xa, ha_, xb, hb_ with
  | [qq0, qq1, qq2, qq3, qq4, qq5, qq6, qq7, qq8, qq9, qq10, qq11, qq12, qq13, qq14, qq15, qq16], _, [qq17, qq18, qq19, qq20, qq21, qq22, qq23, qq24, qq25, qq26, qq27, qq28, qq29, qq30, qq31, qq32, qq33], _ =>
    have h : Cel W 39 [qq0, qq1, qq2, qq3, qq4, qq5, qq6, qq7, qq8, qq9, qq10, qq11, qq12, qq13, qq14, qq15, qq16, qq17, qq18, qq19, qq20, qq21, qq22, qq23, qq24, qq25, qq26, qq27, qq28, qq29, qq30, qq31, qq32, qq33] := h
    obtain ⟨kd, e0, _⟩ := (h.field1 Tryd.underlying39 0 0 3 _ rfl rfl rfl (by kernel_rfl) qq0 rfl).i64 Tryd.underlying3
    have hb := h.field Tryd.underlying39 1 _ rfl
    rw [show Tryd.prog.cellsOf _ = 2 by kernel_rfl] at hb
    obtain ⟨sl, e3, _⟩ := (h.field1 Tryd.underlying39 2 3 3 _ rfl rfl rfl (by kernel_rfl) qq3 rfl).i64 Tryd.underlying3
    obtain ⟨ha, e4⟩ := (h.field1 Tryd.underlying39 3 4 4 _ rfl rfl rfl (by kernel_rfl) qq4 rfl).bool Tryd.underlying4
    have hv := h.field Tryd.underlying39 4 _ rfl
    rw [show Tryd.prog.cellsOf _ = 2 by kernel_rfl] at hv
    have hc := h.field Tryd.underlying39 5 _ rfl
    rw [show Tryd.prog.cellsOf _ = 10 by kernel_rfl] at hc
    have ht := h.field Tryd.underlying39 6 _ rfl
    rw [show Tryd.prog.cellsOf _ = 4 by kernel_rfl] at ht
    have hi := h.field Tryd.underlying39 7 _ rfl
    rw [show Tryd.prog.cellsOf _ = 2 by kernel_rfl] at hi
    obtain ⟨g, e23, _⟩ := (h.field1 Tryd.underlying39 8 23 3 _ rfl rfl rfl (by kernel_rfl) qq23 rfl).i64 Tryd.underlying3
    obtain ⟨st, e24, hst⟩ := (h.field1 Tryd.underlying39 9 24 31 _ rfl rfl rfl (by kernel_rfl) qq24 rfl).u64 Tryd.underlying31
    obtain ⟨ye, e25⟩ := (h.field1 Tryd.underlying39 10 25 4 _ rfl rfl rfl (by kernel_rfl) qq25 rfl).bool Tryd.underlying4
    obtain ⟨nu, e26, _⟩ := (h.field1 Tryd.underlying39 11 26 3 _ rfl rfl rfl (by kernel_rfl) qq26 rfl).i64 Tryd.underlying3
    obtain ⟨ky, e27, hks⟩ := (h.field1 Tryd.underlying39 12 27 9 _ rfl rfl rfl (by kernel_rfl) qq27 rfl).string Tryd.underlying9
    obtain ⟨ve, e28, hve⟩ := (h.field1 Tryd.underlying39 13 28 31 _ rfl rfl rfl (by kernel_rfl) qq28 rfl).u64 Tryd.underlying31
    have hx := h.field Tryd.underlying39 14 _ rfl
    rw [show Tryd.prog.cellsOf _ = 3 by kernel_rfl] at hx
    obtain ⟨er, e32, _⟩ := (h.field1 Tryd.underlying39 15 32 36 _ rfl rfl rfl (by kernel_rfl) qq32 rfl).i64 Tryd.underlying36
    have hd := h.field Tryd.underlying39 16 _ rfl
    rw [show Tryd.prog.cellsOf _ = 1 by kernel_rfl] at hd
    obtain ⟨br, bn, eb, hbr, _⟩ := Cel.bal hb
    obtain ⟨vr, vn, ev, hvr, _⟩ := Cel.bal hv
    obtain ⟨x, ec, hcx⟩ := Cel.cm hc
    obtain ⟨ts, tq, rs, ws, A1, c1, A2, c2, et, htx⟩ := Cel.txn ht
    obtain ⟨ii, ij, ei⟩ := Cel.id9 hi
    obtain ⟨vk, vb, vt, ex, _, _, hvb, hvt⟩ := Cel.val hx
    have hd1 : Cel W 37 [qq33] := hd
    obtain ⟨A, n, c, e33⟩ := hd1.isSlice Tryd.underlying37
    rw [e33] at hd1
    obtain ⟨dt, r1, r2, r3, r4, r5, r6⟩ := Cel.rows (fun b : UInt8 => [Value.int .u8 (b.toNat : Int)]) (fun _ => True) hd1 Tryd.underlying37 (sz := 1) (by kernel_rfl) (by omega) (fun cs hcs => by
      obtain ⟨q, hq, hq8⟩ := hcs.u8 Tryd.underlying5
      refine ⟨UInt8.ofNat q, ?_, trivial⟩
      rw [hq, UInt8.toNat_ofNat', Nat.mod_eq_of_lt hq8])
    have hdr : Rd W W.heap.size A (bc dt) := fun j u hu => by
      unfold bc at hu
      rw [List.getElem?_map] at hu
      obtain ⟨b, hb, rfl⟩ := Option.map_eq_some_iff.1 hu
      obtain ⟨bl, off, e, hlt, hc⟩ := r5 j [.int .u8 (b.toNat : Int)] (by rw [List.getElem?_map, hb]; rfl)
      exact ⟨bl, off, e, hlt, by have := hc 0 _ rfl; simpa using this⟩
    have e34 : qq33 = .slice A dt.length c := by rw [e33, r1]
    have hdl : dt.length ≤ c := by omega
    have hdn : A = none → dt = [] ∧ c = 0 := fun h => by have := r4 h; exact ⟨List.eq_nil_of_length_eq_zero (by omega), by omega⟩
    refine ⟨⟨kd, br, bn, sl, ha, vr, vn, x, ⟨ts, tq, rs, ws, A1, c1, A2, c2⟩, ii, ij, g, st, ye, nu, ky, ve, vk, vb, vt, er, dt, A, c⟩, ?_, ⟨hcx, htx, hdr, hdl, r3, hdn, hks, hvt, hbr, hvr, hvb, hve, hst⟩⟩
    cases e0; cases e3; cases e4; cases e23; cases e24; cases e25; cases e26; cases e27; cases e28; cases e32
    have eb' : [qq1, qq2] = [.int .u32 (br : Int), .int .i64 bn] := eb
    have ev' : [qq5, qq6] = [.int .u32 (vr : Int), .int .i64 vn] := ev
    have ec' : [qq7, qq8, qq9, qq10, qq11, qq12, qq13, qq14, qq15, qq16] = x.cells := ec
    have et' : [qq17, qq18, qq19, qq20] = [.int .i64 ts, .int .i64 tq, .slice A1 rs.length c1, .slice A2 ws.length c2] := et
    have ei' : [qq21, qq22] = [.int .i64 ii, .int .i64 ij] := ei
    have ex' : [qq29, qq30, qq31] = [.int .i64 vk, .int .u64 (vb : Int), .string vt] := ex
    unfold Cm.cells at ec'
    simp only [List.cons.injEq, and_true] at eb' ev' ec' et' ei' ex'
    obtain ⟨rfl, rfl⟩ := eb'
    obtain ⟨rfl, rfl⟩ := ev'
    obtain ⟨rfl, rfl, rfl, rfl, rfl, rfl, rfl, rfl, rfl, rfl⟩ := ec'
    obtain ⟨rfl, rfl, rfl, rfl⟩ := et'
    obtain ⟨rfl, rfl⟩ := ei'
    obtain ⟨rfl, rfl, rfl⟩ := ex'
    subst e34
    rfl
theorem Arg.ms (h : Arg W 39 v) : ∃ m : Ms, v = .agg m.cells.toArray ∧ MsOk W W.heap.size m := by
  obtain ⟨⟨cs⟩, rfl, hc⟩ := h.struct Tryd.underlying39
  obtain ⟨x, hx, r⟩ := Cel.ms hc
  exact ⟨x, by rw [show cs = x.cells from hx], r⟩
end
end Go.Proofs.YtjofjpmhokjhnaaDoor

namespace Go.Proofs.YtjofjpmhokjhnaaDoor
set_option maxRecDepth 20001
open Go.RowKit T
set_option linter.unusedSimpArgs false
set_option linter.unusedVariables false
namespace T
/-- a record -/
structure Rc where
  kd : Int
  br : Nat
  bn : Int
  sl : Int
  c : Cm
  dt : List UInt8
  D : Option Addr
  dc : Nat
def Rc.cells (x : Rc) : List Value := [.int .i64 x.kd, .int .u32 (x.br : Int), .int .i64 x.bn, .int .i64 x.sl, .int .i64 x.c.k, .int .i64 x.c.s, .int .i64 x.c.q, .slice x.c.A1 x.c.rs.length x.c.c1, .slice x.c.A2 x.c.ws.length x.c.c2, .int .i64 x.c.i, .int .i64 x.c.j, .int .i64 x.c.g, .int .u64 (x.c.st : Int), .bool x.c.y, .slice x.D x.dt.length x.dc]
def Rc.zero : Rc := ⟨0, 0, 0, 0, Cm.zero, [], none, 0⟩
end T
instance : Inhabited Rc := ⟨Rc.zero⟩
theorem Rc.one (x : Rc) : x.cells.toArray.all (·.oneCell') = true := by simp [Rc.cells, Value.oneCell']
theorem sizeRc : (Tryd.prog.info? 65).map (·.size) = some 15 := by kernel_rfl
/-- where a record's parts lie -/
structure RcOk (w : World) (B : Nat) (x : Rc) : Prop where
  c : CmOk w B x.c
  d : Rd w B x.D (bc x.dt)
  dl : x.dt.length ≤ x.dc
  dm : x.dc ≤ maxLen
  dn : x.D = none → x.dt = [] ∧ x.dc = 0
  br : x.br < 4294967296
theorem RcOk.below {w w' : World} {B B' : Nat} {x : Rc} (h : RcOk w B x) (hb : Below B' w w') (hB : B ≤ B') : RcOk w' B x := { h with c := h.c.below hb hB, d := h.d.below (hb.mono hB) }
theorem RcOk.more {w : World} {B B' : Nat} {x : Rc} (h : RcOk w B x) (hB : B ≤ B') : RcOk w B' x := { h with c := h.c.more hB, d := h.d.more hB }
theorem rcZero {w : World} {B : Nat} : RcOk w B Rc.zero := ⟨CmOk.zero, Rd.nil, Nat.le_refl _, by simp [Rc.zero, maxLen], fun _ => ⟨rfl, rfl⟩, by simp [Rc.zero]⟩
section
open Go.ChangeShapes Go.WideShapes Go.ChangeAt
variable {W : World} {cs : List Value} {v : Value}
theorem Cel.rc (h : Cel W 65 cs) : ∃ x : Rc, cs = x.cells ∧ RcOk W W.heap.size x := by
  have hl := h.len Tryd.underlying65
  rw [show Tryd.prog.cellsOf 65 = 15 by kernel_rfl] at hl
  match cs, hl with
  | [q0, q1, q2, q3, q4, q5, q6, q7, q8, q9, q10, q11, q12, q13, q14], _ =>
    obtain ⟨kd, e0, _⟩ := (h.field1 Tryd.underlying65 0 0 3 _ rfl rfl rfl (by kernel_rfl) q0 rfl).i64 Tryd.underlying3
    have hb := h.field Tryd.underlying65 1 _ rfl
    rw [show Tryd.prog.cellsOf _ = 2 by kernel_rfl] at hb
    obtain ⟨sl, e3, _⟩ := (h.field1 Tryd.underlying65 2 3 3 _ rfl rfl rfl (by kernel_rfl) q3 rfl).i64 Tryd.underlying3
    have hc := h.field Tryd.underlying65 3 _ rfl
    rw [show Tryd.prog.cellsOf _ = 10 by kernel_rfl] at hc
    have hd := h.field Tryd.underlying65 4 _ rfl
    rw [show Tryd.prog.cellsOf _ = 1 by kernel_rfl] at hd
    obtain ⟨br, bn, eb, hbr, _⟩ := Cel.bal hb
    obtain ⟨x, ec, hcx⟩ := Cel.cm hc
    have hd1 : Cel W 37 [q14] := hd
    obtain ⟨A, n, c, e14⟩ := hd1.isSlice Tryd.underlying37
    rw [e14] at hd1
    obtain ⟨dt, r1, r2, r3, r4, r5, r6⟩ := Cel.rows (fun b : UInt8 => [Value.int .u8 (b.toNat : Int)]) (fun _ => True) hd1 Tryd.underlying37 (sz := 1) (by kernel_rfl) (by omega) (fun cs hcs => by
      obtain ⟨q, hq, hq8⟩ := hcs.u8 Tryd.underlying5
      refine ⟨UInt8.ofNat q, ?_, trivial⟩
      rw [hq, UInt8.toNat_ofNat', Nat.mod_eq_of_lt hq8])
    have hdr : Rd W W.heap.size A (bc dt) := fun j u hu => by
      unfold bc at hu
      rw [List.getElem?_map] at hu
      obtain ⟨b, hb, rfl⟩ := Option.map_eq_some_iff.1 hu
      obtain ⟨bl, off, e, hlt, hc⟩ := r5 j [.int .u8 (b.toNat : Int)] (by rw [List.getElem?_map, hb]; rfl)
      exact ⟨bl, off, e, hlt, by have := hc 0 _ rfl; simpa using this⟩
    have e15 : q14 = .slice A dt.length c := by rw [e14, r1]
    have hdl : dt.length ≤ c := by omega
    have hdn : A = none → dt = [] ∧ c = 0 := fun h => by have := r4 h; exact ⟨List.eq_nil_of_length_eq_zero (by omega), by omega⟩
    refine ⟨⟨kd, br, bn, sl, x, dt, A, c⟩, ?_, ⟨hcx, hdr, hdl, r3, hdn, hbr⟩⟩
    cases e0; cases e3
    have eb' : [q1, q2] = [.int .u32 (br : Int), .int .i64 bn] := eb
    have ec' : [q4, q5, q6, q7, q8, q9, q10, q11, q12, q13] = x.cells := ec
    unfold Cm.cells at ec'
    simp only [List.cons.injEq, and_true] at eb' ec'
    obtain ⟨rfl, rfl⟩ := eb'
    obtain ⟨rfl, rfl, rfl, rfl, rfl, rfl, rfl, rfl, rfl, rfl⟩ := ec'
    subst e15
    rfl
theorem Arg.rc (h : Arg W 65 v) : ∃ x : Rc, v = .agg x.cells.toArray ∧ RcOk W W.heap.size x := by
  obtain ⟨⟨cs⟩, rfl, hc⟩ := h.struct Tryd.underlying65
  obtain ⟨x, hx, r⟩ := Cel.rc hc
  exact ⟨x, by rw [show cs = x.cells from hx], r⟩
theorem Arg.rcs (h : Arg W 57 v) : ∃ (A : Option Addr) (c : Nat) (ls : List Rc), v = .slice A ls.length c ∧ ls.length ≤ c ∧ c ≤ maxLen ∧ RowsAt W W.heap.size A 15 (ls.map Rc.cells) ∧ ∀ x ∈ ls, RcOk W W.heap.size x := by
  obtain ⟨A, n, c, rfl, hc⟩ := h.slice Tryd.underlying57
  obtain ⟨ls, r1, r2, r3, r4, r5, r6⟩ := hc.rows Rc.cells (fun x => RcOk W W.heap.size x) Tryd.underlying57 (sz := 15) (by kernel_rfl) (by omega) (fun cs hc => Cel.rc hc)
  subst r1
  exact ⟨A, c, ls, rfl, r2, r3, r5, r6⟩
end
end Go.Proofs.YtjofjpmhokjhnaaDoor

namespace Go.Proofs.YtjofjpmhokjhnaaDoor
set_option maxRecDepth 20001
open Go.RowKit T
set_option linter.unusedSimpArgs false
set_option linter.unusedVariables false

namespace T
/-- the letters of the fields that a kind uses -/
def fieldsOf (k : Int) : List UInt8 := if k = 1 ∨ k = 3 then [66] else if k = 2 then [66, 83, 72] else if k = 4 then [66, 83, 67] else if k = 5 then [66, 83] else if k = 6 then [83, 67] else if k = 7 then [83] else if k = 8 then [84] else if k = 9 then [73, 71, 80] else if k = 10 then [73, 71, 89] else if k = 11 then [73, 71, 80, 89] else if k = 12 then [80, 78, 75] else if k = 13 then [71, 80, 78, 75, 86, 88, 69] else if k = 14 then [78] else if k = 15 then [83, 68] else []
/-- one field is taken over -/
def Ms.put (m o : Ms) (l : Nat) : Ms := if l = 66 then { o with br := m.br, bn := m.bn } else if l = 83 then { o with sl := m.sl } else if l = 72 then (if m.ha then { o with ha := m.ha, vr := m.vr, vn := m.vn, c := m.c } else { o with ha := m.ha }) else if l = 67 then { o with c := m.c } else if l = 84 then { o with t := m.t } else if l = 73 then { o with ii := m.ii, ij := m.ij } else if l = 71 then { o with g := m.g } else if l = 80 then { o with st := m.st } else if l = 89 then { o with ye := m.ye } else if l = 78 then { o with nu := m.nu } else if l = 75 then { o with ky := m.ky } else if l = 86 then { o with ve := m.ve } else if l = 88 then { o with vk := m.vk, vb := m.vb, vt := m.vt } else if l = 69 then { o with er := m.er } else if l = 68 then { o with dt := m.dt, D := m.D, dc := m.dc } else o
/-- a message with just the fields that it uses -/
def Ms.only (m : Ms) : Ms := (fieldsOf m.kd).foldl (fun o l => m.put o l.toNat) (Ms.zero m.kd)
end T
theorem Ms.built (k : Int) : Tryd.prog.built 39 [(0, .int .i64 k)] = some (Ms.zero k).cells.toArray := by kernel_rfl
end Go.Proofs.YtjofjpmhokjhnaaDoor

namespace Go.Proofs.YtjofjpmhokjhnaaDoor
set_option maxRecDepth 20001
open Go.RowKit T
set_option linter.unusedSimpArgs false
set_option linter.unusedVariables false

set_option maxHeartbeats 1000000 in
theorem bequal_any (A : Option Addr) (c : Nat) (l : List UInt8) (A' : Option Addr) (c' : Nat) (l' : List UInt8) (B : Nat) (w : World) (h : Rd w B A (bc l)) (h' : Rd w B A' (bc l')) :
    Calls Tryd.prog 58 #[.slice A l.length c, .slice A' l'.length c'] w fun e w' => e = .returned (.bool (decide (l = l'))) ∧ w = w' := by
  have e1 := run_string_rd (P := Tryd.prog) w 37 5 9 Tryd.underlying37 Tryd.underlying5 Tryd.underlying9 B A c l h
  have e2 := run_string_rd (P := Tryd.prog) w 37 5 9 Tryd.underlying37 Tryd.underlying5 Tryd.underlying9 B A' c' l' h'
  have e3 : (l == l') = decide (l = l') := by
    by_cases q : l = l'
    · subst q; simp
    · rw [decide_eq_false q]; simpa using q
  clear h h'
  generalize decide (l = l') = d at e3 ⊢
  go_enter Tryd.func58, Tryd.ntmps58
  go_wp2
  go_ret
  refine ⟨?_, rfl⟩
  rw [← e3]
  rfl
/-- are two transactions alike -/
def SameT (x y : Tn) : Bool := decide (x.s = y.s ∧ x.q = y.q ∧ x.rs = y.rs ∧ x.ws = y.ws)
/-- are two messages alike -/
def T.Ms.same (a b : Ms) : Bool := (a.kd == b.kd) && (decide (a.br = b.br ∧ a.bn = b.bn)) && (a.sl == b.sl) && (a.ha == b.ha) && (decide (a.vr = b.vr ∧ a.vn = b.vn)) && (decide (a.ii = b.ii ∧ a.ij = b.ij)) && (a.g == b.g) && ((a.st : Int) == (b.st : Int)) && (a.ye == b.ye) && (a.nu == b.nu) && (a.ky.toList == b.ky.toList) && ((a.ve : Int) == (b.ve : Int)) && (decide (a.vk = b.vk ∧ a.vb = b.vb ∧ a.vt.toList = b.vt.toList)) && (a.er == b.er) && (SameC a.c b.c) && (SameT a.t b.t) && (decide (a.dt = b.dt))
end Go.Proofs.YtjofjpmhokjhnaaDoor
