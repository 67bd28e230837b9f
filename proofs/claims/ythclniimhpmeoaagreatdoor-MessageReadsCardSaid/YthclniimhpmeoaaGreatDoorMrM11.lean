import Derived.Test.YthclniimhpmeoaaGreatDoorMrM10
set_option maxRecDepth 20001
set_option linter.unusedSimpArgs false
set_option linter.unusedVariables false
namespace Go.Proofs.YthclniimhpmeoaaGreatDoor
set_option maxRecDepth 20000
section
open Go.RowKit T
namespace T
structure Tn where
 s : Int
 q : Int
 rs : List Rd1
 ws : List Wr1
 A1 : Option Addr
 c1 : Nat
 A2 : Option Addr
 c2 : Nat
def Tn.cells (x : Tn) : List Value := [.int .i64 x.s, .int .i64 x.q, .slice x.A1 x.rs.length x.c1, .slice x.A2 x.ws.length x.c2]
def Tn.zero : Tn := ⟨0, 0, [], [], none, 0, none, 0⟩
structure Ms where
 kd : Int
 br : Nat
 bn : Int
 sl : Int
 ha : Bool
 vr : Nat
 vn : Int
 c : Cm
 t : Tn
 ii : Int
 ij : Int
 g : Int
 st : Nat
 ye : Bool
 nu : Int
 ky : ByteArray
 ve : Nat
 vk : Int
 vb : Nat
 vt : ByteArray
 er : Int
 dt : List UInt8
 D : Option Addr
 dc : Nat
def Ms.cells (m : Ms) : List Value := [.int .i64 m.kd, .int .u32 (m.br : Int), .int .i64 m.bn, .int .i64 m.sl, .bool m.ha, .int .u32 (m.vr : Int), .int .i64 m.vn, .int .i64 m.c.k, .int .i64 m.c.s, .int .i64 m.c.q, .slice m.c.A1 m.c.rs.length m.c.c1, .slice m.c.A2 m.c.ws.length m.c.c2, .int .i64 m.c.i, .int .i64 m.c.j, .int .i64 m.c.g, .int .u64 (m.c.st : Int), .bool m.c.y, .int .i64 m.t.s, .int .i64 m.t.q, .slice m.t.A1 m.t.rs.length m.t.c1, .slice m.t.A2 m.t.ws.length m.t.c2, .int .i64 m.ii, .int .i64 m.ij, .int .i64 m.g, .int .u64 (m.st : Int), .bool m.ye, .int .i64 m.nu, .string m.ky, .int .u64 (m.ve : Int), .int .i64 m.vk, .int .u64 (m.vb : Int), .string m.vt, .int .i64 m.er, .slice m.D m.dt.length m.dc]
def Ms.zero (k : Int) : Ms := ⟨k, 0, 0, 0, false, 0, 0, Cm.zero, Tn.zero, 0, 0, 0, 0, false, 0, ByteArray.empty, 0, 0, 0, ByteArray.empty, 0, [], none, 0⟩
end T
theorem Ms.one (m : Ms) : m.cells.toArray.all (·.oneCell') = true := by simp [Ms.cells, Value.oneCell']
theorem Ms.cells_len (m : Ms) : m.cells.length = 34 := rfl
theorem Tn.one (x : Tn) : x.cells.toArray.all (·.oneCell') = true := by simp [Tn.cells, Value.oneCell']
theorem sizeMs : (Tryz.prog.info? 79).map (·.size) = some 34 := by kernel_rfl
theorem sizeTn : (Tryz.prog.info? 30).map (·.size) = some 4 := by kernel_rfl
theorem sizeVal : (Tryz.prog.info? 77).map (·.size) = some 3 := by kernel_rfl
theorem sizeBal : (Tryz.prog.info? 24).map (·.size) = some 2 := by kernel_rfl
theorem Ms.pb (m : Ms) : ∀ j v, ([.int .u32 (m.br : Int), .int .i64 m.bn] : List Value)[j]? = some v → m.cells[1 + j]? = some v := fun j v h => by
 match j, h with
 | 0, h => exact h
 | 1, h => exact h
 | n + 2, h => simp [Cm.cells, Tn.cells] at h
theorem Ms.pv (m : Ms) : ∀ j v, ([.int .u32 (m.vr : Int), .int .i64 m.vn] : List Value)[j]? = some v → m.cells[5 + j]? = some v := fun j v h => by
 match j, h with
 | 0, h => exact h
 | 1, h => exact h
 | n + 2, h => simp [Cm.cells, Tn.cells] at h
theorem Ms.pc (m : Ms) : ∀ j v, (m.c.cells : List Value)[j]? = some v → m.cells[7 + j]? = some v := fun j v h => by
 match j, h with
 | 0, h => exact h
 | 1, h => exact h
 | 2, h => exact h
 | 3, h => exact h
 | 4, h => exact h
 | 5, h => exact h
 | 6, h => exact h
 | 7, h => exact h
 | 8, h => exact h
 | 9, h => exact h
 | n + 10, h => simp [Cm.cells, Tn.cells] at h
theorem Ms.pt (m : Ms) : ∀ j v, (m.t.cells : List Value)[j]? = some v → m.cells[17 + j]? = some v := fun j v h => by
 match j, h with
 | 0, h => exact h
 | 1, h => exact h
 | 2, h => exact h
 | 3, h => exact h
 | n + 4, h => simp [Cm.cells, Tn.cells] at h
theorem Ms.pi (m : Ms) : ∀ j v, ([.int .i64 m.ii, .int .i64 m.ij] : List Value)[j]? = some v → m.cells[21 + j]? = some v := fun j v h => by
 match j, h with
 | 0, h => exact h
 | 1, h => exact h
 | n + 2, h => simp [Cm.cells, Tn.cells] at h
theorem Ms.px (m : Ms) : ∀ j v, ([.int .i64 m.vk, .int .u64 (m.vb : Int), .string m.vt] : List Value)[j]? = some v → m.cells[29 + j]? = some v := fun j v h => by
 match j, h with
 | 0, h => exact h
 | 1, h => exact h
 | 2, h => exact h
 | n + 3, h => simp [Cm.cells, Tn.cells] at h
theorem res_c {P : Program} {fn : Func} {p : Tmp} {ty : TypeId} (h : fn.results = #[.cell p ty]) {tmps : Array Value} {w : World} {g : Nat} {t : TypeId} {cs : List Value} {d : TypeDesc}
 (hp : tmps.getD p undef = .pointer (some ⟨g, 0, none⟩)) (hg : w.heap[g]? = some (.cells cs.toArray t (0, 0)))
 (hu : P.underlying ty = some d) (hd : d.isRow = true) (hi : (P.info? ty).map (·.size) = some cs.length) : (results fn tmps).run P w = .ok (.agg cs.toArray) w := by
 (have hp' : tmps[p]?.getD undef = .pointer (some ⟨g, 0, none⟩) := by simpa using hp);simp [results, h, hp', asAddr, run_loadVar_mid w g 0 ty cs d (rowAt hg) hu hd hi]
structure MsOk (w : World) (B : Nat) (m : Ms) : Prop where
 c : CmOk w B m.c
 t : TxOk w B m.t.rs m.t.ws m.t.A1 m.t.c1 m.t.A2 m.t.c2
 d : Rd w B m.D (bc m.dt)
 dl : m.dt.length ≤ m.dc
 dm : m.dc ≤ maxLen
 dn : m.D = none → m.dt = [] ∧ m.dc = 0
 ks : m.ky.size ≤ 9223372036854775807
 ts : m.vt.size ≤ 9223372036854775807
 br : m.br < 4294967296
 vr : m.vr < 4294967296
 vb : m.vb < 18446744073709551616
 ve : m.ve < 18446744073709551616
 st : m.st < 18446744073709551616
theorem MsOk.below {w w' : World} {B B' : Nat} {m : Ms} (h : MsOk w B m) (hb : Below B' w w') (hB : B ≤ B') : MsOk w' B m := { h with c := h.c.below hb hB, t := h.t.below hb hB, d := h.d.below (hb.mono hB) }
theorem MsOk.more {w : World} {B B' : Nat} {m : Ms} (h : MsOk w B m) (hB : B ≤ B') : MsOk w B' m := { h with c := h.c.more hB, t := h.t.more hB, d := h.d.more hB }
section
open Go.ChangeShapes Go.WideShapes Go.ChangeAt
variable {W : World} {cs : List Value} {v : Value}
end
end
section
open Go.RowKit T
namespace T
structure Rc where
 kd : Int
 br : Nat
 bn : Int
 sl : Int
 c : Cm
 dt : List UInt8
 D : Option Addr
 dc : Nat
def Rc.cells (x : Rc) : List Value := [.int .i64 x.kd, .int .u32 (x.br : Int), .int .i64 x.bn, .int .i64 x.sl, .int .i64 x.c.k, .int .i64 x.c.s, .int .i64 x.c.q, .slice x.c.A1 x.c.rs.length x.c.c1, .slice x.c.A2 x.c.ws.length x.c.c2, .int .i64 x.c.i, .int .i64 x.c.j, .int .i64 x.c.g, .int .u64 (x.c.st : Int), .bool x.c.y, .slice x.D x.dt.length x.dc]
def Rc.zero : Rc := ⟨0, 0, 0, 0, Cm.zero, [], none, 0⟩
end T
instance : Inhabited Rc := ⟨Rc.zero⟩
theorem Rc.one (x : Rc) : x.cells.toArray.all (·.oneCell') = true := by simp [Rc.cells, Value.oneCell']
structure RcOk (w : World) (B : Nat) (x : Rc) : Prop where
 c : CmOk w B x.c
 d : Rd w B x.D (bc x.dt)
 dl : x.dt.length ≤ x.dc
 dm : x.dc ≤ maxLen
 dn : x.D = none → x.dt = [] ∧ x.dc = 0
 br : x.br < 4294967296
theorem RcOk.below {w w' : World} {B B' : Nat} {x : Rc} (h : RcOk w B x) (hb : Below B' w w') (hB : B ≤ B') : RcOk w' B x := { h with c := h.c.below hb hB, d := h.d.below (hb.mono hB) }
theorem RcOk.more {w : World} {B B' : Nat} {x : Rc} (h : RcOk w B x) (hB : B ≤ B') : RcOk w B' x := { h with c := h.c.more hB, d := h.d.more hB }
theorem rcZero {w : World} {B : Nat} : RcOk w B Rc.zero := ⟨CmOk.zero, Rd.nil, Nat.le_refl _, by simp [Rc.zero, maxLen], fun _ => ⟨rfl, rfl⟩, by simp [Rc.zero]⟩
section
open Go.ChangeShapes Go.WideShapes Go.ChangeAt
variable {W : World} {cs : List Value} {v : Value}
theorem Cel.rc (h : Cel W 36 cs) : ∃ x : Rc, cs = x.cells ∧ RcOk W W.heap.size x := by
 have hl := h.len Tryz.underlying36;rw [show Tryz.prog.cellsOf 36 = 15 by kernel_rfl] at hl
 match cs, hl with
 | [q0, q1, q2, q3, q4, q5, q6, q7, q8, q9, q10, q11, q12, q13, q14], _ =>
   obtain ⟨kd, e0, _⟩ := (h.field1 Tryz.underlying36 0 0 3 _ rfl rfl rfl (by kernel_rfl) q0 rfl).i64 Tryz.underlying3;have hb := h.field Tryz.underlying36 1 _ rfl;rw [show Tryz.prog.cellsOf _ = 2 by kernel_rfl] at hb;obtain ⟨sl, e3, _⟩ := (h.field1 Tryz.underlying36 2 3 3 _ rfl rfl rfl (by kernel_rfl) q3 rfl).i64 Tryz.underlying3;have hc := h.field Tryz.underlying36 3 _ rfl;rw [show Tryz.prog.cellsOf _ = 10 by kernel_rfl] at hc;have hd := h.field Tryz.underlying36 4 _ rfl;rw [show Tryz.prog.cellsOf _ = 1 by kernel_rfl] at hd;obtain ⟨br, bn, eb, hbr, _⟩ := Cel.bal hb;obtain ⟨x, ec, hcx⟩ := Cel.cm hc;have hd1 : Cel W 34 [q14] := hd;obtain ⟨A, n, c, e14⟩ := hd1.isSlice Tryz.underlying34;rw [e14] at hd1
   obtain ⟨dt, r1, r2, r3, r4, r5, r6⟩ := Cel.rows (fun b : UInt8 => [Value.int .u8 (b.toNat : Int)]) (fun _ => True) hd1 Tryz.underlying34 (sz := 1) (by kernel_rfl) (by omega) (fun cs hcs => by
    obtain ⟨q, hq, hq8⟩ := hcs.u8 Tryz.underlying5;refine ⟨UInt8.ofNat q, ?_, trivial⟩
    rw [hq, UInt8.toNat_ofNat', Nat.mod_eq_of_lt hq8])
   have hdr : Rd W W.heap.size A (bc dt) := fun j u hu => by
    unfold bc at hu;rw [List.getElem?_map] at hu;obtain ⟨b, hb, rfl⟩ := Option.map_eq_some_iff.1 hu;obtain ⟨bl, off, e, hlt, hc⟩ := r5 j [.int .u8 (b.toNat : Int)] (by rw [List.getElem?_map, hb]; rfl);exact ⟨bl, off, e, hlt, by have := hc 0 _ rfl; simpa using this⟩
   (have e15 : q14 = .slice A dt.length c := by rw [e14, r1]);(have hdl : dt.length ≤ c := by omega);(have hdn : A = none → dt = [] ∧ c = 0 := fun h => by have := r4 h; exact ⟨List.eq_nil_of_length_eq_zero (by omega), by omega⟩);refine ⟨⟨kd, br, bn, sl, x, dt, A, c⟩, ?_, ⟨hcx, hdr, hdl, r3, hdn, hbr⟩⟩
   cases e0; cases e3
   have eb' : [q1, q2] = [.int .u32 (br : Int), .int .i64 bn] := eb;have ec' : [q4, q5, q6, q7, q8, q9, q10, q11, q12, q13] = x.cells := ec;unfold Cm.cells at ec';simp only [List.cons.injEq, and_true] at eb' ec';obtain ⟨rfl, rfl⟩ := eb';obtain ⟨rfl, rfl, rfl, rfl, rfl, rfl, rfl, rfl, rfl, rfl⟩ := ec';subst e15;rfl
theorem Arg.rc (h : Arg W 36 v) : ∃ x : Rc, v = .agg x.cells.toArray ∧ RcOk W W.heap.size x := by
 obtain ⟨⟨cs⟩, rfl, hc⟩ := h.struct Tryz.underlying36;obtain ⟨x, hx, r⟩ := Cel.rc hc;exact ⟨x, by rw [show cs = x.cells from hx], r⟩
theorem Arg.rcs (h : Arg W 39 v) : ∃ (A : Option Addr) (c : Nat) (ls : List Rc), v = .slice A ls.length c ∧ ls.length ≤ c ∧ c ≤ maxLen ∧ RowsAt W W.heap.size A 15 (ls.map Rc.cells) ∧ ∀ x ∈ ls, RcOk W W.heap.size x := by
 obtain ⟨A, n, c, rfl, hc⟩ := h.slice Tryz.underlying39;obtain ⟨ls, r1, r2, r3, r4, r5, r6⟩ := hc.rows Rc.cells (fun x => RcOk W W.heap.size x) Tryz.underlying39 (sz := 15) (by kernel_rfl) (by omega) (fun cs hc => Cel.rc hc);subst r1;exact ⟨A, c, ls, rfl, r2, r3, r5, r6⟩
end
end
end Go.Proofs.YthclniimhpmeoaaGreatDoor
