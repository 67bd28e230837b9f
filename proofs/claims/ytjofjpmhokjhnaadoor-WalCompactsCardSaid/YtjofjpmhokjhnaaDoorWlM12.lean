/- Commands that came in as arguments. No condition. -/
import Derived.Test.YtjofjpmhokjhnaaDoorWlM1
import Derived.Test.YtjofjpmhokjhnaaDoorWlM11
import Derived.Test.YtjofjpmhokjhnaaDoorWlM2
namespace Go.Proofs.YtjofjpmhokjhnaaDoor
set_option maxRecDepth 20000
open Go.RowKit Go.ChangeShapes Go.WideShapes Go.ChangeAt
set_option linter.unusedSimpArgs false
set_option linter.unusedVariables false

namespace T
/-- a read: its key, its version -/
abbrev Rd1 := List UInt8 × Nat
/-- a write: its key, its value -/
abbrev Wr1 := List UInt8 × Int × Nat × List UInt8
def encR (r : Rd1) : List Value := [.string ⟨r.1.toArray⟩, .int .u64 (r.2 : Int)]
def encW (x : Wr1) : List Value := [.string ⟨x.1.toArray⟩, .int .i64 x.2.1, .int .u64 (x.2.2.1 : Int), .string ⟨x.2.2.2.toArray⟩]
def okR (r : Rd1) : Prop := r.1.length ≤ 9223372036854775807 ∧ r.2 < 18446744073709551616
def okW (x : Wr1) : Prop := x.1.length ≤ 9223372036854775807 ∧ x.2.2.1 < 18446744073709551616 ∧ x.2.2.2.length ≤ 9223372036854775807
/-- ids -/
def idb (s q : Int) : Bool := decide (1 ≤ s ∧ s ≤ 8 ∧ 1 ≤ q ∧ q ≤ 1048576)
/-- the text at i is a key, greater than the one ahead -/
def good (l : List (List UInt8)) (i : Nat) : Bool := V.key (l[i]?.getD []) && (decide (i = 0) || Op.bytesLess (l[i-1]?.getD []) (l[i]?.getD []))
def rises (l : List (List UInt8)) : Bool := (List.range l.length).all (good l)
def wok (x : Wr1) : Bool := V.formed x.2.1 x.2.2.1 x.2.2.2
def formed (s q : Int) (rs : List Rd1) (ws : List Wr1) : Bool :=
  idb s q && decide (rs.length ≤ 6 ∧ ws.length ≤ 6 ∧ rs.length + ws.length ≠ 0) && rises (rs.map (·.1)) && rises (ws.map (·.1)) && ws.all wok
def cformed (k s q : Int) (rs : List Rd1) (ws : List Wr1) (i j g : Int) (st : Nat) (y : Bool) : Bool :=
  if k = 0 then decide (s = 0 ∧ q = 0 ∧ rs = [] ∧ ws = [] ∧ i = 0 ∧ j = 0 ∧ g = 0 ∧ st = 0 ∧ y = false)
  else if k = 1 then formed s q rs ws && decide (i = 0 ∧ j = 0 ∧ g = 0 ∧ st = 0 ∧ y = false)
  else if k = 2 then decide (s = 0 ∧ q = 0 ∧ rs = [] ∧ ws = [] ∧ y = false) && idb i j && decide (0 ≤ g ∧ g < 4 ∧ 1 ≤ st ∧ st < 9223372036854775808)
  else if k = 3 then decide (s = 0 ∧ q = 0 ∧ rs = [] ∧ ws = [] ∧ st = 0) && idb i j && decide (0 ≤ g ∧ g < 4)
  else false
theorem rises_iff (l : List (List UInt8)) : rises l = true ↔ ∀ i, i < l.length → good l i = true := by simp [rises]
theorem rises_false (l : List (List UInt8)) (i : Nat) (hi : i < l.length) (h : good l i = false) : rises l = false := by
  cases hr : rises l with
  | false => rfl
  | true => rw [(rises_iff l).1 hr i hi] at h; exact Bool.noConfusion h
end T
open T
structure TxOk (W : World) (B : Nat) (rs : List Rd1) (ws : List Wr1) (A1 : Option Addr) (c1 : Nat) (A2 : Option Addr) (c2 : Nat) : Prop where
  r : RowsAt W B A1 2 (rs.map encR)
  w : RowsAt W B A2 4 (ws.map encW)
  rc : rs.length ≤ c1
  wc : ws.length ≤ c2
  rm : c1 ≤ maxLen
  wm : c2 ≤ maxLen
  ro : ∀ x ∈ rs, okR x
  wo : ∀ x ∈ ws, okW x
section
variable {W W' : World} {B B' : Nat} {rs : List Rd1} {ws : List Wr1} {A1 A2 : Option Addr} {c1 c2 : Nat}
theorem TxOk.below (h : TxOk W B rs ws A1 c1 A2 c2) (hb : Below B' W W') (hB : B ≤ B') : TxOk W' B rs ws A1 c1 A2 c2 := { h with r := h.r.below hb hB, w := h.w.below hb hB }
theorem TxOk.more (h : TxOk W B rs ws A1 c1 A2 c2) (hB : B ≤ B') : TxOk W B' rs ws A1 c1 A2 c2 := { h with r := h.r.more hB, w := h.w.more hB }
theorem TxOk.alloc (h : TxOk W B rs ws A1 c1 A2 c2) (hB : B ≤ W.heap.size) (o : Obj) : TxOk (W.alloc o) B rs ws A1 c1 A2 c2 := { h with r := h.r.alloc hB o, w := h.w.alloc hB o }
theorem TxOk.grown {g : Nat} (h : TxOk W B rs ws A1 c1 A2 c2) (hg : W.grownBy W' (some g)) (hB : B ≤ g) (hs : B ≤ W.heap.size) : TxOk W' B rs ws A1 c1 A2 c2 := { h with r := h.r.grown hg hB hs, w := h.w.grown hg hB hs }
theorem TxOk.zero : TxOk W B [] [] none 0 none 0 := ⟨RowsAt.nil, RowsAt.nil, Nat.le_refl _, Nat.le_refl _, by simp [maxLen], by simp [maxLen], by simp, by simp⟩
end
section
variable {W : World} {cs : List Value}
theorem Cel.rd (h : Cel W 147 cs) : ∃ r : Rd1, cs = encR r ∧ okR r := by
  have hl := h.len Tryd.underlying147
  rw [show Tryd.prog.cellsOf 147 = 2 by kernel_rfl] at hl
  match cs, hl with
  | [x, y], _ =>
    obtain ⟨t, ht, t1⟩ := (h.field1 Tryd.underlying147 0 0 9 _ rfl rfl rfl (by kernel_rfl) x rfl).string Tryd.underlying9
    obtain ⟨b, hb, b1⟩ := (h.field1 Tryd.underlying147 1 1 31 _ rfl rfl rfl (by kernel_rfl) y rfl).u64 Tryd.underlying31
    cases ht; cases hb
    refine ⟨(t.data.toList, b), ?_, ?_, b1⟩
    · unfold encR; rw [str_eta]
    · rw [str_size]; exact t1
theorem Cel.wr (h : Cel W 140 cs) : ∃ x : Wr1, cs = encW x ∧ okW x := by
  have hl := h.len Tryd.underlying140
  rw [show Tryd.prog.cellsOf 140 = 4 by kernel_rfl] at hl
  match cs, hl with
  | [x, y, z, u], _ =>
    obtain ⟨t, ht, t1⟩ := (h.field1 Tryd.underlying140 0 0 9 _ rfl rfl rfl (by kernel_rfl) x rfl).string Tryd.underlying9
    have hv := h.field Tryd.underlying140 1 _ rfl
    rw [show Tryd.prog.cellsOf _ = 3 by kernel_rfl] at hv
    obtain ⟨k, b, t', e, _, _, b1, t2⟩ := Cel.val hv
    cases ht
    simp at e
    obtain ⟨rfl, rfl, rfl⟩ := e
    refine ⟨(t.data.toList, k, b, t'.data.toList), ?_, ?_, b1, ?_⟩
    · unfold encW; rw [str_eta, str_eta]
    · rw [str_size]; exact t1
    · show t'.data.toList.length ≤ _; rw [str_size]; exact t2
theorem Cel.id (h : Cel W 26 cs) : ∃ s q : Int, cs = [.int .i64 s, .int .i64 q] ∧ -9223372036854775808 ≤ s ∧ s ≤ 9223372036854775807 ∧ -9223372036854775808 ≤ q ∧ q ≤ 9223372036854775807 := by
  have hl := h.len Tryd.underlying26
  rw [show Tryd.prog.cellsOf 26 = 2 by kernel_rfl] at hl
  match cs, hl with
  | [x, y], _ =>
    obtain ⟨s, hs, s1, s2⟩ := (h.field1 Tryd.underlying26 0 0 3 _ rfl rfl rfl (by kernel_rfl) x rfl).i64 Tryd.underlying3
    obtain ⟨q, hq, q1, q2⟩ := (h.field1 Tryd.underlying26 1 1 3 _ rfl rfl rfl (by kernel_rfl) y rfl).i64 Tryd.underlying3
    cases hs; cases hq
    exact ⟨s, q, rfl, s1, s2, q1, q2⟩
instance : Inhabited Rd1 := ⟨([], 0)⟩
instance : Inhabited Wr1 := ⟨([], 0, 0, [])⟩
theorem Cel.txn (h : Cel W 30 cs) : ∃ (s q : Int) (rs : List Rd1) (ws : List Wr1) (A1 : Option Addr) (c1 : Nat) (A2 : Option Addr) (c2 : Nat),
    cs = [.int .i64 s, .int .i64 q, .slice A1 rs.length c1, .slice A2 ws.length c2] ∧ TxOk W W.heap.size rs ws A1 c1 A2 c2 := by
  have hl := h.len Tryd.underlying30
  rw [show Tryd.prog.cellsOf 30 = 4 by kernel_rfl] at hl
  match cs, hl with
  | [x, y, z, u], _ =>
    have hi := h.field Tryd.underlying30 0 _ rfl
    rw [show Tryd.prog.cellsOf _ = 2 by kernel_rfl] at hi
    obtain ⟨s, q, e, _⟩ := Cel.id hi
    simp at e
    obtain ⟨rfl, rfl⟩ := e
    have h2 := h.field1 Tryd.underlying30 1 2 27 _ rfl rfl rfl (by kernel_rfl) z rfl
    have h3 := h.field1 Tryd.underlying30 2 3 28 _ rfl rfl rfl (by kernel_rfl) u rfl
    obtain ⟨A1, n1, c1, rfl⟩ := h2.isSlice Tryd.underlying27
    obtain ⟨A2, n2, c2, rfl⟩ := h3.isSlice Tryd.underlying28
    obtain ⟨rs, r1, r2, r3, r4, r5, r6⟩ := h2.rows encR okR Tryd.underlying27 (sz := 2) (by kernel_rfl) (by omega) (fun cs hc => hc.rd)
    obtain ⟨ws, w1, w2, w3, w4, w5, w6⟩ := h3.rows encW okW Tryd.underlying28 (sz := 4) (by kernel_rfl) (by omega) (fun cs hc => hc.wr)
    subst r1; subst w1
    exact ⟨s, q, rs, ws, A1, c1, A2, c2, rfl, r5, w5, r2, w2, r3, w3, r6, w6⟩
theorem Cel.cmd {t : TypeId} {fs : Array Field} (h : Cel W t cs) (ht : Tryd.prog.underlying t = some (.struct fs)) (hc : Tryd.prog.cellsOf t = 10)
    (f0 : fs[0]?.map (fun f => (f.offset, f.type)) = some (0, 3)) (f1 : fs[1]?.map (fun f => (f.offset, f.type)) = some (1, 30)) (f2 : fs[2]?.map (fun f => (f.offset, f.type)) = some (5, 26))
    (f3 : fs[3]?.map (fun f => (f.offset, f.type)) = some (7, 3)) (f4 : fs[4]?.map (fun f => (f.offset, f.type)) = some (8, 31)) (f5 : fs[5]?.map (fun f => (f.offset, f.type)) = some (9, 4)) :
    ∃ (k s q : Int) (rs : List Rd1) (ws : List Wr1) (A1 : Option Addr) (c1 : Nat) (A2 : Option Addr) (c2 : Nat) (i j g : Int) (st : Nat) (y : Bool),
    cs = [.int .i64 k, .int .i64 s, .int .i64 q, .slice A1 rs.length c1, .slice A2 ws.length c2, .int .i64 i, .int .i64 j, .int .i64 g, .int .u64 (st : Int), .bool y] ∧ TxOk W W.heap.size rs ws A1 c1 A2 c2 ∧ st < 18446744073709551616 ∧
      (-9223372036854775808 ≤ k ∧ k ≤ 9223372036854775807) ∧ (-9223372036854775808 ≤ g ∧ g ≤ 9223372036854775807) := by
  have hl := h.len ht
  rw [hc] at hl
  match cs, hl with
  | [v0, v1, v2, v3, v4, v5, v6, v7, v8, v9], _ =>
    obtain ⟨F0, e0, e0'⟩ := Option.map_eq_some_iff.1 f0
    obtain ⟨F1, e1, e1'⟩ := Option.map_eq_some_iff.1 f1
    obtain ⟨F2, e2, e2'⟩ := Option.map_eq_some_iff.1 f2
    obtain ⟨F3, e3, e3'⟩ := Option.map_eq_some_iff.1 f3
    obtain ⟨F4, e4, e4'⟩ := Option.map_eq_some_iff.1 f4
    obtain ⟨F5, e5, e5'⟩ := Option.map_eq_some_iff.1 f5
    simp only [Prod.mk.injEq] at e0' e1' e2' e3' e4' e5'
    obtain ⟨k, hk, kb⟩ := (h.field1 ht 0 0 3 F0 e0 e0'.1 e0'.2 (by kernel_rfl) v0 rfl).i64 Tryd.underlying3
    obtain ⟨g, hg, gb⟩ := (h.field1 ht 3 7 3 F3 e3 e3'.1 e3'.2 (by kernel_rfl) v7 rfl).i64 Tryd.underlying3
    obtain ⟨st, hst, sb⟩ := (h.field1 ht 4 8 31 F4 e4 e4'.1 e4'.2 (by kernel_rfl) v8 rfl).u64 Tryd.underlying31
    obtain ⟨y, hy⟩ := (h.field1 ht 5 9 4 F5 e5 e5'.1 e5'.2 (by kernel_rfl) v9 rfl).bool Tryd.underlying4
    have h1 := h.field ht 1 F1 e1
    rw [e1'.1, e1'.2, show Tryd.prog.cellsOf 30 = 4 by kernel_rfl] at h1
    obtain ⟨s, q, rs, ws, A1, c1, A2, c2, et, ok⟩ := Cel.txn h1
    have h2 := h.field ht 2 F2 e2
    rw [e2'.1, e2'.2, show Tryd.prog.cellsOf 26 = 2 by kernel_rfl] at h2
    obtain ⟨i, j, ei, _⟩ := Cel.id h2
    cases hk; cases hg; cases hst; cases hy
    simp at et ei
    obtain ⟨rfl, rfl, rfl, rfl⟩ := et
    obtain ⟨rfl, rfl⟩ := ei
    exact ⟨k, s, q, rs, ws, A1, c1, A2, c2, i, j, g, st, y, rfl, ok, sb, kb, gb⟩
end
end Go.Proofs.YtjofjpmhokjhnaaDoor

namespace Go.Proofs.YtjofjpmhokjhnaaDoor
set_option maxRecDepth 20001
open Go.RowKit T
set_option linter.unusedSimpArgs false
set_option linter.unusedVariables false

namespace T
/-- a command -/
structure Cm where
  k : Int
  s : Int
  q : Int
  rs : List Rd1
  ws : List Wr1
  A1 : Option Addr
  c1 : Nat
  A2 : Option Addr
  c2 : Nat
  i : Int
  j : Int
  g : Int
  st : Nat
  y : Bool
def Cm.cells (x : Cm) : List Value := [.int .i64 x.k, .int .i64 x.s, .int .i64 x.q, .slice x.A1 x.rs.length x.c1, .slice x.A2 x.ws.length x.c2, .int .i64 x.i, .int .i64 x.j, .int .i64 x.g, .int .u64 (x.st : Int), .bool x.y]
def Cm.zero : Cm := ⟨0, 0, 0, [], [], none, 0, none, 0, 0, 0, 0, 0, false⟩
end T
/-- where a command's parts lie -/
def CmOk (w : World) (B : Nat) (x : Cm) : Prop := TxOk w B x.rs x.ws x.A1 x.c1 x.A2 x.c2
theorem CmOk.below {w w' : World} {B B' : Nat} {x : Cm} (h : CmOk w B x) (hb : Below B' w w') (hB : B ≤ B') : CmOk w' B x := TxOk.below h hb hB
theorem CmOk.alloc {w : World} {B : Nat} {x : Cm} (h : CmOk w B x) (hB : B ≤ w.heap.size) (o : Obj) : CmOk (w.alloc o) B x := TxOk.alloc h hB o
theorem CmOk.more {w : World} {B B' : Nat} {x : Cm} (h : CmOk w B x) (hB : B ≤ B') : CmOk w B' x := TxOk.more h hB
theorem CmOk.zero {w : World} {B : Nat} : CmOk w B Cm.zero := TxOk.zero
namespace T
def Cm.formed (x : Cm) : Bool := T.cformed x.k x.s x.q x.rs x.ws x.i x.j x.g x.st x.y
end T
def SameC (x y : Cm) : Bool := decide (x.k = y.k ∧ (x.i = y.i ∧ x.j = y.j) ∧ x.g = y.g ∧ x.st = y.st ∧ x.y = y.y ∧ x.s = y.s ∧ x.q = y.q ∧ x.rs = y.rs ∧ x.ws = y.ws)
theorem SameC.refl (x : Cm) : SameC x x = true := by simp [SameC]
theorem cformed_k {x : Cm} (h : x.formed = true) : x.k = 0 ∨ x.k = 1 ∨ x.k = 2 ∨ x.k = 3 := by
  unfold Cm.formed T.cformed at h
  by_cases h0 : x.k = 0
  · exact .inl h0
  · by_cases h1 : x.k = 1
    · exact .inr (.inl h1)
    · by_cases h2 : x.k = 2
      · exact .inr (.inr (.inl h2))
      · by_cases h3 : x.k = 3
        · exact .inr (.inr (.inr h3))
        · rw [if_neg h0, if_neg h1, if_neg h2, if_neg h3] at h; exact Bool.noConfusion h
theorem cformed_0 {x : Cm} (h : x.formed = true) (hk : x.k = 0) : SameC x Cm.zero = true := by
  unfold Cm.formed T.cformed at h
  rw [if_pos hk] at h
  have h := of_decide_eq_true h
  obtain ⟨h1, h2, h3, h4, h5, h6, h7, h8, h9⟩ := h
  exact decide_eq_true ⟨hk, ⟨h5, h6⟩, h7, h8, h9, h1, h2, h3, h4⟩
theorem cformed_1 {x : Cm} (h : x.formed = true) (hk : x.k = 1) : T.formed x.s x.q x.rs x.ws = true ∧ x.i = 0 ∧ x.j = 0 ∧ x.g = 0 ∧ x.st = 0 ∧ x.y = false := by
  unfold Cm.formed T.cformed at h
  rw [if_neg (by omega), if_pos hk, Bool.and_eq_true, decide_eq_true_eq] at h
  exact h
theorem cformed_2 {x : Cm} (h : x.formed = true) (hk : x.k = 2) : (x.s = 0 ∧ x.q = 0 ∧ x.rs = [] ∧ x.ws = [] ∧ x.y = false) ∧ T.idb x.i x.j = true ∧ 0 ≤ x.g ∧ x.g < 4 ∧ 1 ≤ x.st ∧ x.st < 9223372036854775808 := by
  unfold Cm.formed T.cformed at h
  rw [if_neg (by omega), if_neg (by omega), if_pos hk, Bool.and_eq_true, Bool.and_eq_true, decide_eq_true_eq, decide_eq_true_eq] at h
  exact ⟨h.1.1, h.1.2, h.2⟩
theorem cformed_3 {x : Cm} (h : x.formed = true) (hk : x.k = 3) : (x.s = 0 ∧ x.q = 0 ∧ x.rs = [] ∧ x.ws = [] ∧ x.st = 0) ∧ T.idb x.i x.j = true ∧ 0 ≤ x.g ∧ x.g < 4 := by
  unfold Cm.formed T.cformed at h
  rw [if_neg (by omega), if_neg (by omega), if_neg (by omega), if_pos hk, Bool.and_eq_true, Bool.and_eq_true, decide_eq_true_eq, decide_eq_true_eq] at h
  exact ⟨h.1.1, h.1.2, h.2⟩
theorem Cm.one (x : Cm) : x.cells.toArray.all (·.oneCell') = true := by simp [Cm.cells, Value.oneCell']
theorem sizeCm : (Tryd.prog.info? 33).map (·.size) = some 10 := by kernel_rfl
end Go.Proofs.YtjofjpmhokjhnaaDoor

namespace Go.Proofs.YtjofjpmhokjhnaaDoor
set_option maxRecDepth 20001
open Go.RowKit Go.ChangeShapes Go.WideShapes Go.ChangeAt T
set_option linter.unusedSimpArgs false
set_option linter.unusedVariables false
section
variable {W : World} {v : Value}
theorem Arg.cmd (h : Arg W 33 v) :
    ∃ (k s q : Int) (rs : List Rd1) (ws : List Wr1) (A1 : Option Addr) (c1 : Nat) (A2 : Option Addr) (c2 : Nat) (i j g : Int) (st : Nat) (y : Bool),
    v = .agg #[.int .i64 k, .int .i64 s, .int .i64 q, .slice A1 rs.length c1, .slice A2 ws.length c2, .int .i64 i, .int .i64 j, .int .i64 g, .int .u64 (st : Int), .bool y] ∧ TxOk W W.heap.size rs ws A1 c1 A2 c2 ∧ st < 18446744073709551616 ∧
      (-9223372036854775808 ≤ k ∧ k ≤ 9223372036854775807) ∧ (-9223372036854775808 ≤ g ∧ g ≤ 9223372036854775807) := by
  obtain ⟨cs, rfl, hc⟩ := h.struct Tryd.underlying33
  obtain ⟨k, s, q, rs, ws, A1, c1, A2, c2, i, j, g, st, y, e, r⟩ := hc.cmd Tryd.underlying33 (by kernel_rfl) (by rfl) (by rfl) (by rfl) (by rfl) (by rfl) (by rfl)
  refine ⟨k, s, q, rs, ws, A1, c1, A2, c2, i, j, g, st, y, ?_, r⟩
  congr 1
  apply Array.ext'
  exact e
end
end Go.Proofs.YtjofjpmhokjhnaaDoor

namespace Go.Proofs.YtjofjpmhokjhnaaDoor
set_option maxRecDepth 20001
open Go.RowKit Go.ChangeShapes Go.WideShapes Go.ChangeAt T
set_option linter.unusedSimpArgs false
set_option linter.unusedVariables false
section
variable {W : World} {cs : List Value} {v : Value}
theorem Cel.cm (h : Cel W 33 cs) : ∃ x : Cm, cs = x.cells ∧ CmOk W W.heap.size x := by
  obtain ⟨k, s, q, rs, ws, A1, c1, A2, c2, i, j, g, st, y, e, r, _⟩ := h.cmd Tryd.underlying33 (by kernel_rfl) (by rfl) (by rfl) (by rfl) (by rfl) (by rfl) (by rfl)
  exact ⟨⟨k, s, q, rs, ws, A1, c1, A2, c2, i, j, g, st, y⟩, e, r⟩
theorem Arg.cm (h : Arg W 33 v) : ∃ x : Cm, v = .agg x.cells.toArray ∧ CmOk W W.heap.size x := by
  obtain ⟨⟨cs⟩, rfl, hc⟩ := h.struct Tryd.underlying33
  obtain ⟨x, hx, r⟩ := Cel.cm hc
  exact ⟨x, by rw [show cs = x.cells from hx], r⟩
instance : Inhabited Cm := ⟨Cm.zero⟩
end
end Go.Proofs.YtjofjpmhokjhnaaDoor
