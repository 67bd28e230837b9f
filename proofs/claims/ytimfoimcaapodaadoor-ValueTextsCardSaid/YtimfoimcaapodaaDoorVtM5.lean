import Derived.Test.YtimfoimcaapodaaDoorVtM4
import Derived.Laws.Slices
import Derived.Laws.Strings3
import Derived.Laws.Concat
import Derived.Lib.ConvBytes
import Derived.Lib.AtoiErrMem
set_option linter.unusedSimpArgs false
set_option linter.unusedVariables false
namespace Go.Proofs.YtimfoimcaapodaaDoor
set_option maxRecDepth 20000
open Go.RowKit
section
variable {P : Program} {a : Act} {o : Oper} {w : World}
theorem exec_slT (x j : Operand) {t : TypeId} {s : ByteArray} {k : IntKind} {n : Nat} (ho : o.op = .slice t x none (some j) none) (hx : a.eval x = .string s) (hj : a.eval j = .int k (n : Int)) (ht : P.underlying t = some .string) (hn : n ≤ s.size) :
 (execOp a.eval o).run P w = .ok (.value (.string (s.extract 0 n))) w := by
 unfold execOp;have := run_slice_string_h (P := P) w t s ht k (n : Int) (by omega) (by omega);simp only [Int.toNat_natCast] at this;simp only [ho, Option.map_some, Option.map_none, hx, hj, run_sliceAt_string w t _ _ _ _ ht, Sem.run_bind, Sem.run_pure, Result.andThen_ok, this]
theorem exec_slF (x j : Operand) {t : TypeId} {s : ByteArray} {k : IntKind} {n : Nat} (ho : o.op = .slice t x (some j) none none) (hx : a.eval x = .string s) (hj : a.eval j = .int k (n : Int)) (ht : P.underlying t = some .string) (hn : n ≤ s.size) :
 (execOp a.eval o).run P w = .ok (.value (.string (s.extract n s.size))) w := by
 unfold execOp;have := run_slice_string_l (P := P) w t s ht k (n : Int) (by omega) (by omega);simp only [Int.toNat_natCast] at this;simp only [ho, Option.map_some, Option.map_none, hx, hj, run_sliceAt_string w t _ _ _ _ ht, Sem.run_bind, Sem.run_pure, Result.andThen_ok, this]
theorem exec_slM (x j i : Operand) {t : TypeId} {s : ByteArray} {k k' : IntKind} {n m : Nat} (ho : o.op = .slice t x (some j) (some i) none) (hx : a.eval x = .string s) (hj : a.eval j = .int k (n : Int)) (hi : a.eval i = .int k' (m : Int)) (ht : P.underlying t = some .string) (hn : n ≤ m) (hm : m ≤ s.size) :
 (execOp a.eval o).run P w = .ok (.value (.string (s.extract n m))) w := by
 unfold execOp;have := run_slice_string (P := P) w t s k k' (n : Int) (m : Int) ht (by omega) (by omega) (by omega);simp only [Int.toNat_natCast] at this;simp only [ho, Option.map_some, Option.map_none, hx, hj, hi, run_sliceAt_string w t _ _ _ _ ht, Sem.run_bind, Sem.run_pure, Result.andThen_ok, this]
theorem run_cat {t : TypeId} {s u : ByteArray} (h : s.size + u.size ≤ 9223372036854775807) : (binOp .add t (.string s) (.string u)).run P w = .ok (.string (s ++ u)) w := by
 show (Op.stringOp .add s u).run P w = _;rw [run_string_add_if, if_neg (by omega)]
theorem exec_ixS (x ix : Operand) {t : TypeId} {s : ByteArray} {k : IntKind} {i : Nat} (ho : o.op = .index t x ix) (hx : a.eval x = .string s) (hi : a.eval ix = .int k (i : Int)) (ht : P.underlying t = some .string) (hlt : i < s.size) :
 (execOp a.eval o).run P w = .ok (.value (.int .u8 ((s.data.toList.getD i 0).toNat : Int))) w := by
 unfold execOp
 have e : (s[i]'hlt) = s.data.toList.getD i 0 := by
  (have h1 : i < s.data.toList.length := by rw [Array.length_toList]; exact hlt);rw [List.getD_eq_getElem?_getD, List.getElem?_eq_getElem h1]; rfl
 have := run_index_string (P := P) w t s k (i : Int) ht;rw [dif_pos (show 0 ≤ (i : Int) ∧ (i : Int) < s.size from ⟨by omega, by omega⟩)] at this;simp only [Int.toNat_natCast] at this;rw [e] at this;simp only [ho, hx, hi, Sem.run_bind, Sem.run_pure, Result.andThen_ok, this]
variable {ops : Array Oper} {rest : List Oper} {Q : Exit → Act → World → Prop}
theorem wcv (x : Operand) (s : ByteArray) {src dst e : TypeId} (hs : P.underlying src = some .string) (hd : P.underlying dst = some (.slice e)) (he : P.underlying e = some (.int .u8))
 (h : ∀ g c z, g = w.heap.size → Below w.heap.size w z → (∀ j, j < s.size → z.cell? ⟨g, j, none⟩ = some (.int .u8 ((s.data.toList.getD j 0).toNat : Int))) → wpList P ops Q rest (a.put o.dst (.slice (some ⟨g, 0, none⟩) s.size c)) z)
 (ho : o.op = .convert src dst x := by kernel_rfl) (hx : a.eval x = .string s := by kernel_rfl) (hw : Region.wanted o (yielded ops a.tmps) = true := by kernel_rfl) : wpList P ops Q (o :: rest) a w := by
 refine wpList_w (.slice (some ⟨w.heap.size, 0, none⟩) s.size (grownCap w s.size 0 e)) (Lib.bytesWorld w e s) hw ?_ (h _ _ _ rfl (Lib.bytesWorld_below w e s) fun j hj => Lib.bytesWorld_cell w e s j hj);unfold execOp;simp only [ho, hx, Sem.run_bind, Sem.run_pure, Result.andThen_ok, Lib.run_convert_string_bytes w src dst e s hs hd he]
theorem exec_ixR (x ix : Operand) {t e : TypeId} {b n : Nat} {k : IntKind} {i : Nat} (ho : o.op = .indexAddr t x ix) (hx : a.eval x = .pointer (some ⟨b, 0, none⟩)) (hi : a.eval ix = .int k (i : Int)) (ht : P.underlying t = some (.array n e)) (hlt : i < n) (hs : (sizeOf e).run P w = .ok 1 w := by kernel_rfl) :
 (execOp a.eval o).run P w = .ok (.value (.pointer (some ⟨b, i, none⟩))) w := by
 unfold execOp;(have h1 : (0 : Int) ≤ (i : Int) ∧ (i : Int) < (n : Int) := by omega);simp only [ho, hx, hi, Instr.indexAt, Instr.sureAddr, asIntOf, Sem.run_bind, Sem.run_pure, Result.andThen_ok, run_underlying ht, h1, and_self, if_true, hs, Int.toNat_natCast, Addr.add_lit, Nat.mul_one, Nat.zero_add]
theorem exec_slR (x j : Operand) {t e : TypeId} {b n : Nat} {k : IntKind} {i : Nat} (ho : o.op = .slice t x (some j) none none) (hx : a.eval x = .pointer (some ⟨b, 0, none⟩)) (hj : a.eval j = .int k (i : Int)) (ht : P.underlying t = some (.array n e)) (hlt : i < n) (hs : (sizeOf e).run P w = .ok 1 w := by kernel_rfl) :
 (execOp a.eval o).run P w = .ok (.value (.slice (some ⟨b, i, none⟩) (n - i) (n - i))) w := by
 (have e1 : P.elem t = e := by simp [Program.elem, ht]);(have e2 : P.arrayLen t = n := by simp [Program.arrayLen, ht]);have := run_sliceAt_array_l (P := P) w t ⟨b, 0, none⟩ (by rw [e1, e2]; exact ht) k (i : Int) (by omega) (by rw [e2]; omega);rw [e1, e2, hs] at this;simp only [Result.andThen_ok, Int.toNat_natCast, Nat.mul_one, slicedAt, Addr.add_lit, Nat.zero_add, if_neg (show ¬ n = i by omega)] at this;unfold execOp;simp only [ho, hx, hj, Option.map_some, Option.map_none, Sem.run_bind, Sem.run_pure, Result.andThen_ok, this]
theorem exec_bs (x : Operand) {src dst e : TypeId} {A : Option Addr} {l : List UInt8} {len c B : Nat} (ho : o.op = .convert src dst x) (hx : a.eval x = .slice A len c) (hs : P.underlying src = some (.slice e)) (he : P.underlying e = some (.int .u8)) (hd : P.underlying dst = some .string) (hl : len = l.length) (hA : Rd w B A (bc l)) :
 (execOp a.eval o).run P w = .ok (.value (.string ⟨l.toArray⟩)) w := by
 subst hl;unfold execOp;simp only [ho, hx, Sem.run_bind, Sem.run_pure, Result.andThen_ok, run_string_rd w src e dst hs he hd B A c l hA]
theorem ws1 (ty : TypeId) (b f : Nat) (v : Value) {old : List Value} {t : TypeId} (hz : w.heap[b]? = some (.cells old.toArray t (0, 0))) (hf : f < old.length) (h : ∀ z, w.grownBy z (some b) → z.heap[b]? = some (.cells (old.set f v).toArray t (0, 0)) → wpList P ops Q rest a z)
 (hi : (P.info? ty).map (·.size) = some 1 := by kernel_rfl) (hcs : v.cells = #[v] := by kernel_rfl) (h1 : v.oneCell' = true := by kernel_rfl)
 (hs : stOf a o.op = some (ty, .pointer (some ⟨b, f, none⟩), v) := by kernel_rfl) (hw : Region.wanted o (yielded ops a.tmps) = true := by kernel_rfl) (hd : o.dst = none := by kernel_rfl) : wpList P ops Q (o :: rest) a w := by
 obtain ⟨x, y, ho, hx, hy⟩ := stOf_eq hs;refine wpList_storeC ty b f v [v] (rowThere hz (by show f + 1 ≤ _; omega)) hcs hi (all1 h1) x y hw ho hx hy ?_;rw [hd];exact h _ (stG rfl) (stN rfl hz)
theorem exec_cat (x y : Operand) {t t2 : TypeId} {l m : List UInt8} (ho : o.op = .binOp .add t x y t2) (hx : a.eval x = .string ⟨l.toArray⟩) (hy : a.eval y = .string ⟨m.toArray⟩) (h : l.length + m.length ≤ 9223372036854775807) : (execOp a.eval o).run P w = .ok (.value (.string ⟨(l ++ m).toArray⟩)) w := by
 have h1 := run_bin (P := P) (w := w) (a := a) (o := o) .add t t2 x y _ _ _ ho hx hy (by rfl) (run_cat (P := P) (w := w) (t := t) (s := ⟨l.toArray⟩) (u := ⟨m.toArray⟩) (by show l.toArray.size + m.toArray.size ≤ _; simpa using h));rw [h1]
 congr 3
theorem ext_take (l : List UInt8) (n : Nat) : (⟨l.toArray⟩ : ByteArray).extract 0 n = ⟨(l.take n).toArray⟩ := by
 apply ByteArray.ext
 simp
theorem ext_drop (s : ByteArray) (n : Nat) : (s.extract n s.size).data.toList = s.data.toList.drop n := by
 rw [Lib.size_eq];simp [List.drop_eq_nil_of_le, List.take_of_length_le]
end
end Go.Proofs.YtimfoimcaapodaaDoor
