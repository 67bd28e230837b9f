/- Numbers as bytes, the greatest first. No program in sight. -/
import Derived.Test.YtjofjpmhokjhnaaDoorWlM1
import Derived.Deep.MidRow
import Derived.Deep.RegionHeld
import Derived.Lib.AppendStr
import Derived.Laws.BytesArg
import Derived.Laws.AppendOwnNone
import Derived.Laws.BitsAllLaws
import GoSem.Op.String
namespace Go.Proofs.YtjofjpmhokjhnaaDoor
set_option maxRecDepth 20000
open Go.RowKit
set_option linter.unusedSimpArgs false
set_option linter.unusedVariables false

section
variable {w w' : World} {g : Nat} {cs part : List Value} {t : TypeId} {o' : Obj}
/-- what lies behind steps that go past it -/
theorem hpB (h : w.heap[g]? = some o') (hb : Below w.heap.size w w') : w'.heap[g]? = some o' := (hb.block g (Array.getElem?_eq_some_iff.1 h).1).trans h
theorem hpA (h : w.heap[g]? = some o') (o : Obj) : (w.alloc o).heap[g]? = some o' := (Below.heap_alloc w o g (Array.getElem?_eq_some_iff.1 h).1).trans h
theorem hpS (h : w.heap[g]? = some o') {p : Addr} (hp : g ≠ p.block) (u : Value) : (w.setCell p u).heap[g]? = some o' := (Below.heap_setCell w p u g hp).trans h
theorem hpR (h : w.heap[g]? = some o') {g' : Nat} (hp : g ≠ g') (vs : Array Value) : (w.setRow g' vs).heap[g]? = some o' := (setRow_other w g' g vs hp).trans h
theorem hpN (w : World) (o : Obj) {n : Nat} (hn : n = w.heap.size) : (w.alloc o).heap[n]? = some o := by subst hn; exact heap_alloc_new w o
/-- a whole row, and a part of it, as ranges -/
theorem rowAt (h : w.heap[g]? = some (.cells cs.toArray t (0, 0))) : w.rangeAt g 0 cs := fun j v hj => by
  rw [Nat.zero_add, cell_of_row w g j cs.toArray t (0, 0) h]; simpa using hj
theorem rowMid (h : w.heap[g]? = some (.cells cs.toArray t (0, 0))) (o : Nat) (hp : ∀ j v, part[j]? = some v → cs[o + j]? = some v) : w.rangeAt g o part := fun j v hj => by
  rw [cell_of_row w g (o + j) cs.toArray t (0, 0) h]; simpa using hp j v hj
theorem rowCell (h : w.heap[g]? = some (.cells cs.toArray t (0, 0))) (i : Nat) {v : Value} (hv : cs[i]? = some v) : w.cell? ⟨g, i, none⟩ = some v := by
  rw [cell_of_row w g i cs.toArray t (0, 0) h]; simpa using hv
theorem rowThere (h : w.heap[g]? = some (.cells cs.toArray t (0, 0))) {o n : Nat} (hn : o + n ≤ cs.length) : w.there g o n := fun j hj => by
  refine ⟨?_, by simp [World.frozen?, h]⟩
  rw [cell_of_row w g (o + j) cs.toArray t (0, 0) h, List.getElem?_toArray, List.getElem?_eq_getElem (by omega)]; rfl
theorem belowSet {B : Nat} {a w : World} (h : Below B a w) {g : Nat} {old cs : Array Value} {t : TypeId} (hg : w.heap[g]? = some (.cells old t (0, 0))) (hB : B ≤ g) : Below B a (w.setRow g cs) :=
  ⟨h.os, h.tape, h.output, by rw [setRow_size]; exact h.size, fun i hi => (setRow_other w g i cs (by omega)).trans (h.block i hi)⟩
end
/-- a guarded load that is carried out -/
theorem wpList_load_g {P : Program} {ops : Array Oper} {rest : List Oper} {op : Oper} {a : Act} {w : World} {Q : Exit → Act → World → Prop} (hw : Region.wanted op (yielded ops a.tmps) = true) (ty : TypeId) (x : Operand) (ho : op.op = .load ty x)
    (b o : Nat) (hx : a.eval x = .pointer (some ⟨b, o, none⟩)) (cs : List Value) (d : TypeDesc) (hc : w.rangeAt b o cs)
    (hu : P.underlying ty = some d) (hd : d.isRow = true) (hi : (P.info? ty).map (·.size) = some cs.length)
    (h : wpList P ops Q rest (a.put op.dst (.agg cs.toArray)) w) : wpList P ops Q (op :: rest) a w :=
  wpList_step fun _ hK => by rw [if_pos hw]; exact wp_load_mid ty x ho b o hx cs d hc hu hd hi (hK _ _ h)
/-- what a function returns that keeps its results in variables -/
theorem res_ct {P : Program} {fn : Func} {p u : Tmp} {ty : TypeId} (h : fn.results = #[.cell p ty, .tmp u]) {tmps : Array Value} {w : World} {g : Nat} {t : TypeId} {cs : List Value} {d : TypeDesc} {v : Value}
    (hp : tmps.getD p undef = .pointer (some ⟨g, 0, none⟩)) (hv : tmps.getD u undef = v) (hg : w.heap[g]? = some (.cells cs.toArray t (0, 0)))
    (hu : P.underlying ty = some d) (hd : d.isRow = true) (hi : (P.info? ty).map (·.size) = some cs.length) : (results fn tmps).run P w = .ok (.tuple #[.agg cs.toArray, v]) w := by
  have hp' : tmps[p]?.getD undef = .pointer (some ⟨g, 0, none⟩) := by simpa using hp
  have hv' : tmps[u]?.getD undef = v := by simpa using hv
  simp [results, h, hp', hv', asAddr, run_loadVar_mid w g 0 ty cs d (rowAt hg) hu hd hi]
/-- does a load, a store come next? -/
theorem isLoad {P : Program} {ops : Array Oper} {rest : List Oper} {op : Oper} {a : Act} {w : World} {Q : Exit → Act → World → Prop} {ty : TypeId} {x : Operand} (ho : op.op = .load ty x) (h : wpList P ops Q (op :: rest) a w) : wpList P ops Q (op :: rest) a w := h
theorem isStore {P : Program} {ops : Array Oper} {rest : List Oper} {op : Oper} {a : Act} {w : World} {Q : Exit → Act → World → Prop} {ty : TypeId} {x y : Operand} (ho : op.op = .store ty x y) (h : wpList P ops Q (op :: rest) a w) : wpList P ops Q (op :: rest) a w := h
/-- cells put into a row, from o on -/
def putAt (cs : List Value) : Nat → List Value → List Value
  | _, [] => cs
  | o, v :: r => putAt (cs.set o v) (o + 1) r
theorem hpC {g : Nat} {t : TypeId} : ∀ (vs : List Value) (o : Nat) (cs : List Value) (w : World), w.heap[g]? = some (.cells cs.toArray t (0, 0)) → (w.setCells g o vs).heap[g]? = some (.cells (putAt cs o vs).toArray t (0, 0))
  | [], _, _, _, h => h
  | v :: r, o, cs, w, h => by
    refine hpC r (o + 1) (cs.set o v) (w.setCell ⟨g, o, none⟩ v) ?_
    simp [World.setCell, Array.getElem?_modify, h]
theorem hpCo {g g' : Nat} {o' : Obj} (hp : g ≠ g') : ∀ (vs : List Value) (o : Nat) (w : World), w.heap[g]? = some o' → (w.setCells g' o vs).heap[g]? = some o'
  | [], _, _, h => h
  | v :: r, o, w, h => hpCo hp r (o + 1) (w.setCell ⟨g', o, none⟩ v) (hpS h (by exact hp) v)
theorem belowC {B g : Nat} {a : World} (hB : B ≤ g) : ∀ (vs : List Value) (o : Nat) (w : World), Below B a w → Below B a (w.setCells g o vs)
  | [], _, _, h => h
  | v :: r, o, w, h => belowC hB r (o + 1) (w.setCell ⟨g, o, none⟩ v) (h.setCell hB v)
theorem belowDrewS {B : Nat} {a w : World} (h : Below B a w) : Below B a w.drew := ⟨h.os, h.tape, h.output, h.size, h.block⟩
/-- element k of rows -/
theorem rowsGet {w : World} {B sz : Nat} {A : Option Addr} {α : Type} {enc : α → List Value} {ls : List α} (h : RowsAt w B A sz (ls.map enc)) {k : Nat} (hk : k < ls.length) : ∃ b off, A = some ⟨b, off, none⟩ ∧ b < B ∧ w.rangeAt b (off + k * sz) (enc ls[k]) := by
  obtain ⟨b, off, h1, h2, h3⟩ := h k (enc ls[k]) (by rw [List.getElem?_map, List.getElem?_eq_getElem hk]; rfl)
  exact ⟨b, off, h1, h2, fun j v hv => h3 j v hv⟩
theorem rangeB {w w' : World} {b o B : Nat} {cs : List Value} (h : w.rangeAt b o cs) (hb : Below B w w') (hB : b < B) : w'.rangeAt b o cs := fun j v hv => (hb.cell hB).trans (h j v hv)
theorem ownBelow {w w' : World} {base e size n : Nat} {v : Value} {xs : List Value} (h : w.ownsRow base e size v n xs) (hb : Below w.heap.size w w') : w'.ownsRow base e size v n xs := by
  rcases h.2 with h0 | ⟨g, cap, cur, hv, hb', hg, rest⟩
  · exact ⟨h.1, Or.inl h0⟩
  · exact ⟨h.1, Or.inr ⟨g, cap, cur, hv, hb', hpB hg hb, rest⟩⟩
end Go.Proofs.YtjofjpmhokjhnaaDoor

namespace Go.Proofs.YtjofjpmhokjhnaaDoor
set_option maxRecDepth 20001
open Go.RowKit
set_option linter.unusedSimpArgs false
set_option linter.unusedVariables false

namespace B
def formed (n : Int) : Bool := decide (0 ≤ n) && decide (n < 5)
end B
/-- a ballot as a value -/
abbrev bal (r : Nat) (n : Int) : Value := .agg #[.int .u32 (r : Int), .int .i64 n]

set_option maxHeartbeats 400000 in
theorem bformed_any (r : Nat) (n : Int) (w : World) :
    Calls Tryd.prog 44 #[bal r n] w fun e w' => e = .returned (.bool (B.formed n)) ∧ Below w.heap.size w w' := by
  go_enter Tryd.func44, Tryd.ntmps44
  go_wp2
  all_goals
    go_ret
    exact ⟨ret_bool (by unfold B.formed; first | rfl | (simp; omega) | (rw [Bool.eq_iff_iff]; simp)), (Below.refl _ _).alloc (Nat.le_refl _) _⟩
theorem cellsBal : Tryd.prog.cellsOf 24 = 2 := by kernel_rfl
theorem cellsU32 : Tryd.prog.cellsOf 22 = 1 := by kernel_rfl
theorem cellsInt6 : Tryd.prog.cellsOf 3 = 1 := by kernel_rfl
theorem Cel.bal {W : World} {cs : List Value} (h : Cel W 24 cs) : ∃ (r : Nat) (n : Int), cs = [.int .u32 (r : Int), .int .i64 n] ∧ r < 4294967296 ∧ -9223372036854775808 ≤ n ∧ n ≤ 9223372036854775807 := by
  have hl := h.len Tryd.underlying24
  rw [cellsBal] at hl
  match cs, hl with
  | [a, b], _ =>
    obtain ⟨x0, e0, hx⟩ := (h.field1 Tryd.underlying24 0 0 22 _ rfl rfl rfl cellsU32 a rfl).u32 Tryd.underlying22
    obtain ⟨x1, e1, hy⟩ := (h.field1 Tryd.underlying24 1 1 3 _ rfl rfl rfl cellsInt6 b rfl).i64 Tryd.underlying3
    simp at e0 e1
    subst e0; subst e1
    exact ⟨x0, x1, rfl, hx, hy⟩
theorem Arg.bal {W : World} {v : Value} (h : Arg W 24 v) : ∃ (r : Nat) (n : Int), v = bal r n ∧ r < 4294967296 ∧ -9223372036854775808 ≤ n ∧ n ≤ 9223372036854775807 := by
  obtain ⟨⟨cs⟩, rfl, hc⟩ := h.struct Tryd.underlying24
  obtain ⟨r, n, rfl, hb⟩ := hc.bal
  exact ⟨r, n, rfl, hb⟩
namespace B
theorem fBal : (Tryd.prog.fieldsOf 24).toList = [{ name := "Round", type := 22, offset := 0, embedded := false, tag := "", pkgPath := "", byteOffset := 0 },
    { name := "Node", type := 3, offset := 1, embedded := false, tag := "", pkgPath := "", byteOffset := 8 }] := by kernel_rfl
theorem eqBal (d : Nat) (r : Nat) (n : Int) (r' : Nat) (n' : Int) (w : World) :
    (Op.equalIn (d + 2) 24 (.agg #[.int .u32 r, .int .i64 n]) (.agg #[.int .u32 r', .int .i64 n'])).run Tryd.prog w = .ok (decide (r = r' ∧ n = n')) w := by
  have hu : Tryd.prog.underlying 24 = some (.struct (Tryd.prog.fieldsOf 24)) := by kernel_rfl
  rw [run_equalIn_struct (P := Tryd.prog) w (d + 1) 24 _ _ hu (by kernel_rfl), fBal]
  have e0 : ∀ w, (Op.equalIn (d + 1) 22 (.int .u32 r) (.int .u32 r')).run Tryd.prog w = .ok ((r : Int) == (r' : Int)) w := fun w => run_equalIn_int w d 22 .u32 .u32 _ _ Tryd.underlying22
  have e1 : ∀ w, (Op.equalIn (d + 1) 3 (.int .i64 n) (.int .i64 n')).run Tryd.prog w = .ok (n == n') w := fun w => run_equalIn_int w d 3 .i64 .i64 n n' Tryd.underlying3
  have p0 : ∀ (x y : Value) w, (part 22 #[x, y] 0).run Tryd.prog w = .ok x w := fun x y w => by rfl
  have p1 : ∀ (x y : Value) w, (part 3 #[x, y] 1).run Tryd.prog w = .ok y w := fun x y w => by rfl
  generalize hd : d + 1 = d1 at *
  clear hd
  by_cases hs : r = r'
  · subst hs
    by_cases hq : n = n'
    · subst hq; simp [Op.eqFields, e0, e1, p0, p1]
    · simp [Op.eqFields, e0, e1, p0, p1, hq]
  · have : ¬ (r : Int) = (r' : Int) := by omega
    simp [Op.eqFields, e0, e1, p0, p1, hs, this]
theorem run_eqBal (r : Nat) (n : Int) (r' : Nat) (n' : Int) (w : World) :
    (binOp .eql 24 (.agg #[.int .u32 r, .int .i64 n]) (.agg #[.int .u32 r', .int .i64 n'])).run Tryd.prog w = .ok (.bool (decide (r = r' ∧ n = n'))) w := by
  rw [run_eql_struct, show (10000 : Nat) = 9998 + 2 from rfl, eqBal]; rfl
end B
namespace B
theorem fRBal : (Tryd.prog.fieldsOf 44).toList = [{ name := "Round", type := 22, offset := 0, embedded := false, tag := "", pkgPath := "", byteOffset := 0 },
    { name := "Node", type := 3, offset := 1, embedded := false, tag := "", pkgPath := "", byteOffset := 8 }] := by kernel_rfl
theorem eqRBal (d : Nat) (r : Nat) (n : Int) (r' : Nat) (n' : Int) (w : World) :
    (Op.equalIn (d + 2) 44 (.agg #[.int .u32 r, .int .i64 n]) (.agg #[.int .u32 r', .int .i64 n'])).run Tryd.prog w = .ok (decide (r = r' ∧ n = n')) w := by
  have hu : Tryd.prog.underlying 44 = some (.struct (Tryd.prog.fieldsOf 44)) := by kernel_rfl
  rw [run_equalIn_struct (P := Tryd.prog) w (d + 1) 44 _ _ hu (by kernel_rfl), fRBal]
  have e0 : ∀ w, (Op.equalIn (d + 1) 22 (.int .u32 r) (.int .u32 r')).run Tryd.prog w = .ok ((r : Int) == (r' : Int)) w := fun w => run_equalIn_int w d 22 .u32 .u32 _ _ Tryd.underlying22
  have e1 : ∀ w, (Op.equalIn (d + 1) 3 (.int .i64 n) (.int .i64 n')).run Tryd.prog w = .ok (n == n') w := fun w => run_equalIn_int w d 3 .i64 .i64 n n' Tryd.underlying3
  have p0 : ∀ (x y : Value) w, (part 22 #[x, y] 0).run Tryd.prog w = .ok x w := fun x y w => by rfl
  have p1 : ∀ (x y : Value) w, (part 3 #[x, y] 1).run Tryd.prog w = .ok y w := fun x y w => by rfl
  generalize hd : d + 1 = d1 at *
  clear hd
  by_cases hs : r = r'
  · subst hs
    by_cases hq : n = n'
    · subst hq; simp [Op.eqFields, e0, e1, p0, p1]
    · simp [Op.eqFields, e0, e1, p0, p1, hq]
  · have : ¬ (r : Int) = (r' : Int) := by omega
    simp [Op.eqFields, e0, e1, p0, p1, hs, this]
theorem run_eqRBal (r : Nat) (n : Int) (r' : Nat) (n' : Int) (w : World) :
    (binOp .eql 44 (.agg #[.int .u32 r, .int .i64 n]) (.agg #[.int .u32 r', .int .i64 n'])).run Tryd.prog w = .ok (.bool (decide (r = r' ∧ n = n'))) w := by
  rw [run_eql_struct, show (10000 : Nat) = 9998 + 2 from rfl, eqRBal]; rfl
end B
end Go.Proofs.YtjofjpmhokjhnaaDoor

namespace Go.Proofs.YtjofjpmhokjhnaaDoor
set_option maxRecDepth 20001
open Go.RowKit
set_option linter.unusedSimpArgs false
set_option linter.unusedVariables false

theorem info_u8 : (Tryd.prog.info? 5).map (fun i => (i.zero, i.size, i.bytes)) = some (some (.int .u8 0), 1, 1) := by kernel_rfl

/-- bytes as cells -/
def bc (l : List UInt8) : List Value := l.map fun (b : UInt8) => Value.int .u8 (b.toNat : Int)
theorem bc_len (l : List UInt8) : (bc l).length = l.length := by simp [bc]
theorem bc_app (l m : List UInt8) : bc (l ++ m) = bc l ++ bc m := by simp [bc]
theorem bc_drop (l : List UInt8) (k : Nat) : (bc l).drop k = bc (l.drop k) := by simp [bc]
theorem bc_take (l : List UInt8) (k : Nat) : (bc l).take k = bc (l.take k) := by simp [bc]
theorem bc_one (l : List UInt8) : ∀ u ∈ bc l, u.oneCell' = true := by
  intro u hu
  obtain ⟨b, _, rfl⟩ := List.mem_map.1 hu
  rfl
theorem bc_get (l : List UInt8) (k : Nat) (h : k < (bc l).length) : (bc l)[k] = .int .u8 ((l[k]'(by simpa [bc] using h)).toNat : Int) := by simp [bc]
theorem bc_str (s : ByteArray) : Lib.strCells s = bc s.data.toList := rfl

/-- the bytes of a slice that came in -/
theorem Arg.bytes {W : World} {t : TypeId} {v : Value} (h : Arg W t v) (ht : Tryd.prog.underlying t = some (.slice 5)) :
    ∃ (A : Option Addr) (c : Nat) (l : List UInt8), v = .slice A l.length c ∧ l.length ≤ c ∧ c ≤ maxLen ∧ (A = none → l = [] ∧ c = 0) ∧ Rd W W.heap.size A (bc l) := by
  obtain ⟨A, n, c, zs, rfl, hn, hc, hA, hz, hr, hw⟩ := h.ints (k := .u8) ht Tryd.underlying5 (by kernel_rfl)
  have e : zs.map (Value.int .u8) = bc (zs.map fun z => UInt8.ofNat z.toNat) := by
    simp only [bc, List.map_map]
    refine List.map_congr_left fun z hz => ?_
    have := bounds_u8 (hw z hz)
    simp only [Function.comp]
    have e2 : ((UInt8.ofNat z.toNat).toNat : Int) = z := by
      rw [UInt8.toNat_ofNat']; omega
    rw [e2]
  rw [e] at hr
  refine ⟨A, c, zs.map fun z => UInt8.ofNat z.toNat, by simp [hz], by simpa [hz] using hn, hc, fun h => ?_, hr⟩
  obtain ⟨h1, h2⟩ := hA h
  exact ⟨by
    have : zs = [] := List.eq_nil_of_length_eq_zero (by omega)
    simp [this], h2⟩

/-- what a function that makes bytes leaves: a row of its own that holds them -/
def MadeB (w : World) (l : List UInt8) (e : Ending) (w' : World) : Prop :=
  ∃ v, e = .returned v ∧ w'.ownsRow w.heap.size 5 1 v l.length (bc l) ∧ Below w.heap.size w w'

section
variable {P : Program} (w : World)
/-- append onto an owned row of what a slice reads as, whether it is nil, empty or not -/
theorem run_append_rd (base : Nat) (t ty e : TypeId) (i : TypeInfo) (z : Value) (bytes : Nat) (ht : P.underlying t = some (.slice e)) (hi : P.info? e = some i) (hz : i.zero = some z)
    (hsize : i.size = 1) (hby : i.bytes = bytes) (hzs : z.cells.size = 1)
    (v : Value) (n : Nat) (xs : List Value) (hown : w.ownsRow base e 1 v n xs)
    (B : Nat) (A : Option Addr) (m c : Nat) (news : List Value) (hm : news.length = m) (hA : A = none → c = 0) (hr : Rd w B A news) (h1 : ∀ u ∈ news, u.oneCell' = true)
    (h63 : n + m ≤ maxLen) (hbytes : (n + m) * bytes ≤ 140737488355328) (hbase : base ≤ w.heap.size) :
    ∃ v' w', (Builtin.append_ #[t, t] ty #[v, .slice A m c]).run P w = .ok v' w' ∧ w'.ownsRow base e 1 v' (n + m) (xs ++ news) ∧ w.grownBy w' v.ownBlock := by
  rcases A with _ | ad
  · have hn : news = [] := by
      cases news with
      | nil => rfl
      | cons x l => obtain ⟨b, off, h, _⟩ := hr 0 x rfl; cases h
    subst hn
    simp at hm
    subst hm
    obtain rfl := hA rfl
    exact ⟨v, w, run_append_owned_none w base t ty e i 1 ht hi v n xs hown, by simpa using hown, World.grownBy.refl w _⟩
  · have hcells : ∀ j u, news[j]? = some u → w.cell? (ad.add j) = some u := by
      intro j u hu
      obtain ⟨b, off, h, _, hc⟩ := hr j u hu
      injection h with h
      subst h
      rw [Addr.add_lit]; exact hc
    obtain ⟨v', w', hrun, h2, h3, _⟩ := run_append_own (P := P) w base t ty e i z 1 bytes ht hi hz hsize hby hzs (by omega) v n xs hown ad m c news (by omega) hcells h1 h63 hbytes hbase
    exact ⟨v', w', hrun, h2, h3⟩

theorem wpList_append_rd {ops : Array Oper} {rest : List Oper} {o : Oper} {a : Act} {Q : Exit → Act → World → Prop} (hgd : o.guard = none) (s x : Operand) (t : TypeId)
    (ho : o.op = .call { callee := .builtin .append, args := #[s, x], argTypes := #[t, t] })
    (base : Nat) (e : TypeId) (i : TypeInfo) (z : Value) (bytes : Nat) (ht : P.underlying t = some (.slice e)) (hi : P.info? e = some i) (hz : i.zero = some z)
    (hsize : i.size = 1) (hby : i.bytes = bytes) (hzs : z.cells.size = 1)
    (v : Value) (n : Nat) (xs : List Value) (hs : a.eval s = v) (hown : w.ownsRow base e 1 v n xs)
    (B : Nat) (A : Option Addr) (m c : Nat) (news : List Value) (hx : a.eval x = .slice A m c) (hm : news.length = m) (hA : A = none → c = 0) (hr : Rd w B A news) (h1 : ∀ u ∈ news, u.oneCell' = true)
    (h63 : n + m ≤ maxLen) (hbytes : (n + m) * bytes ≤ 140737488355328) (hbase : base ≤ w.heap.size)
    (h : ∀ v' w', w'.ownsRow base e 1 v' (n + m) (xs ++ news) → w.grownBy w' v.ownBlock → wpList P ops Q rest (a.put o.dst v') w') : wpList P ops Q (o :: rest) a w := by
  refine wpList_plain hgd fun K hK => ?_
  obtain ⟨v', w', hrun, h2, h3⟩ := run_append_rd (P := P) w base t o.type e i z bytes ht hi hz hsize hby hzs v n xs hown B A m c news hm hA hr h1 h63 hbytes hbase
  unfold Oper.wp execOp
  simp only [ho, resolve, invoke, builtin, Sem.run_bind, Sem.run_pure, Result.andThen_ok, List.map_toArray, List.map_cons, List.map_nil, hs, hx, hrun]
  exact hK _ _ (h v' w' h2 h3)
end

/-- behind the append of one byte -/
theorem appB {w wr w2 : World} {v v' : Value} {cur : List UInt8} {b : UInt8} {o : Obj} (hown : wr.ownsRow w.heap.size 5 1 v cur.length (bc cur)) (hbel : Below w.heap.size w wr)
    (hown' : w2.ownsRow w.heap.size 5 1 v' (cur.length + 1) (bc cur ++ [.int .u8 (b.toNat : Int)])) (hgrow : (wr.alloc o).grownBy w2 v.ownBlock) :
    w2.ownsRow w.heap.size 5 1 v' (cur ++ [b]).length (bc (cur ++ [b])) ∧ Below w.heap.size w w2 := by
  refine ⟨?_, (hbel.alloc hbel.size _).grown hgrow (by have := hbel.size; simp; omega) (fun g hg => (hown.lt g hg).1)⟩
  rw [bc_app]; simpa [bc] using hown'
/-- behind the append of many -/
theorem appM {w wr w2 : World} {v v' : Value} {cur l : List UInt8} {n : Nat} (hown : wr.ownsRow w.heap.size 5 1 v cur.length (bc cur)) (hbel : Below w.heap.size w wr)
    (hown' : w2.ownsRow w.heap.size 5 1 v' n (bc cur ++ bc l)) (hn : n = cur.length + l.length) (hgrow : wr.grownBy w2 v.ownBlock) :
    w2.ownsRow w.heap.size 5 1 v' (cur ++ l).length (bc (cur ++ l)) ∧ Below w.heap.size w w2 := by
  refine ⟨?_, hbel.grown hgrow hbel.size (fun g hg => (hown.lt g hg).1)⟩
  rw [bc_app, List.length_append, ← hn]; exact hown'

/-- string(b): the bytes of a slice, as a string -/
theorem run_string_rd {P : Program} (w : World) (src e dst : TypeId) (hs : P.underlying src = some (.slice e)) (he : P.underlying e = some (.int .u8)) (hd : P.underlying dst = some .string)
    (B : Nat) (A : Option Addr) (c : Nat) (l : List UInt8) (hA : Rd w B A (bc l)) : (convert src dst (.slice A l.length c)).run P w = .ok (.string ⟨l.toArray⟩) w := by
  cases l with
  | nil =>
    cases A with
    | none => exact run_convert_bytes_nil w src e hs he _ _ dst hd
    | some a =>
      rw [run_convert_bytes_string w src dst e _ _ c hs he hd]
      have := run_bytesToString (P := P) w a 0 c [] (by simp [loadCells, loadCellsFrom])
      simp only [List.foldl_nil] at this
      exact this
  | cons b bs =>
    obtain ⟨blk, off, rfl, _, _⟩ := hA 0 _ rfl
    have h := run_convert_bytes_arg (P := P) w src e hs he blk off (b :: bs).length c ((b :: bs).map fun x => (x.toNat : Int)) (by simp) (fun i hi => by
      obtain ⟨b2, off2, h2, _, hc⟩ := hA i (.int .u8 (((b :: bs)[i]'hi).toNat : Int)) (by unfold bc; rw [List.getElem?_map, List.getElem?_eq_getElem hi]; rfl)
      injection h2 with h2
      injection h2 with h3 h4
      subst h3; subst h4
      rw [hc]
      rw [List.getD_eq_getElem?_getD, List.getElem?_map, List.getElem?_eq_getElem hi]; rfl) dst hd
    rw [h]
    congr 2
    have e : ∀ l : List UInt8, strOfNums (l.map fun x => (x.toNat : Int)) = ⟨l.toArray⟩ := by
      intro l
      unfold strOfNums
      congr 1
      simp [List.map_map, Function.comp_def]
    exact e _

end Go.Proofs.YtjofjpmhokjhnaaDoor

namespace Go.Proofs.YtjofjpmhokjhnaaDoor.C

/-- the last k bytes of x, the greatest first -/
def be (x : Nat) : Nat → List UInt8
  | 0 => []
  | k + 1 => UInt8.ofNat (x / 256 ^ k) :: be x k

theorem be_len (x k : Nat) : (be x k).length = k := by
  induction k with
  | zero => rfl
  | succ k ih => simp [be, ih]

/-- what bytes come to -/
def val (a : Nat) (l : List UInt8) : Nat := l.foldl (fun a b => a * 256 + b.toNat) a

theorem val_app (a : Nat) (l m : List UInt8) : val a (l ++ m) = val (val a l) m := by simp [val]
theorem val_shift (a : Nat) (l : List UInt8) : val a l = a * 256 ^ l.length + val 0 l := by
  induction l generalizing a with
  | nil => simp [val]
  | cons b l ih =>
    show val (a * 256 + b.toNat) l = a * 256 ^ (l.length + 1) + val (0 * 256 + b.toNat) l
    rw [ih, ih (0 * 256 + b.toNat), Nat.pow_succ]
    simp only [Nat.zero_mul, Nat.zero_add, Nat.add_mul, Nat.mul_assoc]
    rw [Nat.mul_comm (256 ^ l.length) 256]
    omega
theorem val_lt (l : List UInt8) : val 0 l < 256 ^ l.length := by
  induction l with
  | nil => simp [val]
  | cons b l ih =>
    show val (0 * 256 + b.toNat) l < 256 ^ (l.length + 1)
    rw [val_shift]
    have := b.toNat_lt
    have h1 : (b.toNat + 1) * 256 ^ l.length ≤ 256 * 256 ^ l.length := Nat.mul_le_mul_right _ (by omega)
    rw [Nat.pow_succ, Nat.mul_comm (256 ^ l.length) 256]
    simp only [Nat.zero_mul, Nat.zero_add]
    rw [Nat.add_mul] at h1
    omega
theorem val_be (x k : Nat) : val 0 (be x k) = x % 256 ^ k := by
  induction k with
  | zero => simp [val, be, Nat.mod_one]
  | succ k ih =>
    show val (0 * 256 + (UInt8.ofNat (x / 256 ^ k)).toNat) (be x k) = _
    rw [val_shift, ih, be_len, UInt8.toNat_ofNat']
    simp only [Nat.zero_mul, Nat.zero_add]
    rw [show (2 : Nat) ^ 8 = 256 from rfl, Nat.pow_succ, Nat.mod_mul, Nat.mul_comm (x / 256 ^ k % 256), Nat.add_comm]
def clamp8 (n : Int) : Nat := (min (max n 0) 8).toNat
theorem clamp8_le (n : Int) : clamp8 n ≤ 8 := by unfold clamp8; omega
/-- what Put makes -/
def put (l : List UInt8) (x : Nat) (n : Int) : List UInt8 := l ++ be x (clamp8 n)
/-- what PutText makes -/
def putText (l : List UInt8) (s : List UInt8) : List UInt8 := l ++ be (min s.length 65535) 2 ++ s.take (min s.length 65535)

end Go.Proofs.YtjofjpmhokjhnaaDoor.C
