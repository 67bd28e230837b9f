import Derived.Test.YtimfoimcaapodaaDoorVbM4
import Derived.Lib.AppendStr
import Derived.Laws.BytesArg
import Derived.Laws.AppendOwnNone
import Derived.Laws.Slices
import Derived.Laws.Strings3
import Derived.Laws.Concat
import Derived.Lib.ConvBytes
import Derived.Lib.AtoiErrMem
set_option maxRecDepth 20001
set_option linter.unusedSimpArgs false
set_option linter.unusedVariables false
namespace Go.Proofs.YtimfoimcaapodaaDoor
set_option maxRecDepth 20000
section
open Go.RowKit
theorem info_u8 : (Tryd.prog.info? 5).map (fun i => (i.zero, i.size, i.bytes)) = some (some (.int .u8 0), 1, 1) := by kernel_rfl
def bc (l : List UInt8) : List Value := l.map fun (b : UInt8) => Value.int .u8 (b.toNat : Int)
theorem bc_len (l : List UInt8) : (bc l).length = l.length := by simp [bc]
theorem bc_app (l m : List UInt8) : bc (l ++ m) = bc l ++ bc m := by simp [bc]
theorem bc_drop (l : List UInt8) (k : Nat) : (bc l).drop k = bc (l.drop k) := by simp [bc]
theorem bc_take (l : List UInt8) (k : Nat) : (bc l).take k = bc (l.take k) := by simp [bc]
theorem bc_one (l : List UInt8) : ∀ u ∈ bc l, u.oneCell' = true := by
 intro u hu;obtain ⟨b, _, rfl⟩ := List.mem_map.1 hu;rfl
theorem bc_get (l : List UInt8) (k : Nat) (h : k < (bc l).length) : (bc l)[k] = .int .u8 ((l[k]'(by simpa [bc] using h)).toNat : Int) := by simp [bc]
theorem bc_str (s : ByteArray) : Lib.strCells s = bc s.data.toList := rfl
theorem Arg.bytes {W : World} {t : TypeId} {v : Value} (h : Arg W t v) (ht : Tryd.prog.underlying t = some (.slice 5)) :
 ∃ (A : Option Addr) (c : Nat) (l : List UInt8), v = .slice A l.length c ∧ l.length ≤ c ∧ c ≤ maxLen ∧ (A = none → l = [] ∧ c = 0) ∧ Rd W W.heap.size A (bc l) := by
 obtain ⟨A, n, c, zs, rfl, hn, hc, hA, hz, hr, hw⟩ := h.ints (k := .u8) ht Tryd.underlying5 (by kernel_rfl)
 have e : zs.map (Value.int .u8) = bc (zs.map fun z => UInt8.ofNat z.toNat) := by
  simp only [bc, List.map_map];refine List.map_congr_left fun z hz => ?_;have := bounds_u8 (hw z hz);simp only [Function.comp]
  have e2 : ((UInt8.ofNat z.toNat).toNat : Int) = z := by
   rw [UInt8.toNat_ofNat']; omega
  rw [e2]
 rw [e] at hr;refine ⟨A, c, zs.map fun z => UInt8.ofNat z.toNat, by simp [hz], by simpa [hz] using hn, hc, fun h => ?_, hr⟩;obtain ⟨h1, h2⟩ := hA h
 exact ⟨by
  have : zs = [] := List.eq_nil_of_length_eq_zero (by omega)
  simp [this], h2⟩
def MadeB (w : World) (l : List UInt8) (e : Ending) (w' : World) : Prop :=
 ∃ v, e = .returned v ∧ w'.ownsRow w.heap.size 5 1 v l.length (bc l) ∧ Below w.heap.size w w'
section
variable {P : Program} (w : World)
theorem run_append_rd (base : Nat) (t ty e : TypeId) (i : TypeInfo) (z : Value) (bytes : Nat) (ht : P.underlying t = some (.slice e)) (hi : P.info? e = some i) (hz : i.zero = some z)
 (hsize : i.size = 1) (hby : i.bytes = bytes) (hzs : z.cells.size = 1)
 (v : Value) (n : Nat) (xs : List Value) (hown : w.ownsRow base e 1 v n xs)
 (B : Nat) (A : Option Addr) (m c : Nat) (news : List Value) (hm : news.length = m) (hA : A = none → c = 0) (hr : Rd w B A news) (h1 : ∀ u ∈ news, u.oneCell' = true)
 (h63 : n + m ≤ maxLen) (hbytes : (n + m) * bytes ≤ 140737488355328) (hbase : base ≤ w.heap.size) :
 ∃ v' w', (Builtin.append_ #[t, t] ty #[v, .slice A m c]).run P w = .ok v' w' ∧ w'.ownsRow base e 1 v' (n + m) (xs ++ news) ∧ w.grownBy w' v.ownBlock := by
 rcases A with _ | ad
 ·have hn : news = [] := by
   cases news with
   | nil => rfl
   | cons x l => obtain ⟨b, off, h, _⟩ := hr 0 x rfl; cases h
  subst hn;simp at hm;subst hm;obtain rfl := hA rfl;exact ⟨v, w, run_append_owned_none w base t ty e i 1 ht hi v n xs hown, by simpa using hown, World.grownBy.refl w _⟩
 ·have hcells : ∀ j u, news[j]? = some u → w.cell? (ad.add j) = some u := by
   intro j u hu;obtain ⟨b, off, h, _, hc⟩ := hr j u hu;injection h with h;subst h;rw [Addr.add_lit]; exact hc
  obtain ⟨v', w', hrun, h2, h3, _⟩ := run_append_own (P := P) w base t ty e i z 1 bytes ht hi hz hsize hby hzs (by omega) v n xs hown ad m c news (by omega) hcells h1 h63 hbytes hbase;exact ⟨v', w', hrun, h2, h3⟩
theorem wpList_append_rd {ops : Array Oper} {rest : List Oper} {o : Oper} {a : Act} {Q : Exit → Act → World → Prop} (hgd : o.guard = none) (s x : Operand) (t : TypeId)
 (ho : o.op = .call { callee := .builtin .append, args := #[s, x], argTypes := #[t, t] })
 (base : Nat) (e : TypeId) (i : TypeInfo) (z : Value) (bytes : Nat) (ht : P.underlying t = some (.slice e)) (hi : P.info? e = some i) (hz : i.zero = some z)
 (hsize : i.size = 1) (hby : i.bytes = bytes) (hzs : z.cells.size = 1)
 (v : Value) (n : Nat) (xs : List Value) (hs : a.eval s = v) (hown : w.ownsRow base e 1 v n xs)
 (B : Nat) (A : Option Addr) (m c : Nat) (news : List Value) (hx : a.eval x = .slice A m c) (hm : news.length = m) (hA : A = none → c = 0) (hr : Rd w B A news) (h1 : ∀ u ∈ news, u.oneCell' = true)
 (h63 : n + m ≤ maxLen) (hbytes : (n + m) * bytes ≤ 140737488355328) (hbase : base ≤ w.heap.size)
 (h : ∀ v' w', w'.ownsRow base e 1 v' (n + m) (xs ++ news) → w.grownBy w' v.ownBlock → wpList P ops Q rest (a.put o.dst v') w') : wpList P ops Q (o :: rest) a w := by
 refine wpList_plain hgd fun K hK => ?_;obtain ⟨v', w', hrun, h2, h3⟩ := run_append_rd (P := P) w base t o.type e i z bytes ht hi hz hsize hby hzs v n xs hown B A m c news hm hA hr h1 h63 hbytes hbase;unfold Oper.wp execOp;simp only [ho, resolve, invoke, builtin, Sem.run_bind, Sem.run_pure, Result.andThen_ok, List.map_toArray, List.map_cons, List.map_nil, hs, hx, hrun];exact hK _ _ (h v' w' h2 h3)
end
theorem appB {w wr w2 : World} {v v' : Value} {cur : List UInt8} {b : UInt8} {o : Obj} (hown : wr.ownsRow w.heap.size 5 1 v cur.length (bc cur)) (hbel : Below w.heap.size w wr)
 (hown' : w2.ownsRow w.heap.size 5 1 v' (cur.length + 1) (bc cur ++ [.int .u8 (b.toNat : Int)])) (hgrow : (wr.alloc o).grownBy w2 v.ownBlock) :
 w2.ownsRow w.heap.size 5 1 v' (cur ++ [b]).length (bc (cur ++ [b])) ∧ Below w.heap.size w w2 := by
 refine ⟨?_, (hbel.alloc hbel.size _).grown hgrow (by have := hbel.size; simp; omega) (fun g hg => (hown.lt g hg).1)⟩;rw [bc_app]; simpa [bc] using hown'
theorem appM {w wr w2 : World} {v v' : Value} {cur l : List UInt8} {n : Nat} (hown : wr.ownsRow w.heap.size 5 1 v cur.length (bc cur)) (hbel : Below w.heap.size w wr)
 (hown' : w2.ownsRow w.heap.size 5 1 v' n (bc cur ++ bc l)) (hn : n = cur.length + l.length) (hgrow : wr.grownBy w2 v.ownBlock) :
 w2.ownsRow w.heap.size 5 1 v' (cur ++ l).length (bc (cur ++ l)) ∧ Below w.heap.size w w2 := by
 refine ⟨?_, hbel.grown hgrow hbel.size (fun g hg => (hown.lt g hg).1)⟩;rw [bc_app, List.length_append, ← hn]; exact hown'
theorem run_string_rd {P : Program} (w : World) (src e dst : TypeId) (hs : P.underlying src = some (.slice e)) (he : P.underlying e = some (.int .u8)) (hd : P.underlying dst = some .string)
 (B : Nat) (A : Option Addr) (c : Nat) (l : List UInt8) (hA : Rd w B A (bc l)) : (convert src dst (.slice A l.length c)).run P w = .ok (.string ⟨l.toArray⟩) w := by
 cases l with
 | nil =>
   cases A with
   | none => exact run_convert_bytes_nil w src e hs he _ _ dst hd
   | some a =>
     rw [run_convert_bytes_string w src dst e _ _ c hs he hd];have := run_bytesToString (P := P) w a 0 c [] (by simp [loadCells, loadCellsFrom]);simp only [List.foldl_nil] at this;exact this
 | cons b bs =>
   obtain ⟨blk, off, rfl, _, _⟩ := hA 0 _ rfl
   have h := run_convert_bytes_arg (P := P) w src e hs he blk off (b :: bs).length c ((b :: bs).map fun x => (x.toNat : Int)) (by simp) (fun i hi => by
    obtain ⟨b2, off2, h2, _, hc⟩ := hA i (.int .u8 (((b :: bs)[i]'hi).toNat : Int)) (by unfold bc; rw [List.getElem?_map, List.getElem?_eq_getElem hi]; rfl);injection h2 with h2;injection h2 with h3 h4;subst h3; subst h4;rw [hc]
    rw [List.getD_eq_getElem?_getD, List.getElem?_map, List.getElem?_eq_getElem hi]; rfl) dst hd
   rw [h]
   congr 2
   have e : ∀ l : List UInt8, strOfNums (l.map fun x => (x.toNat : Int)) = ⟨l.toArray⟩ := by
    intro l;unfold strOfNums
    congr 1
    simp [List.map_map, Function.comp_def]
   exact e _
end
section
open Go.RowKit
section
variable {P : Program} {a : Act} {o : Oper} {w : World}
theorem exec_slT (x j : Operand) {t : TypeId} {s : ByteArray} {k : IntKind} {n : Nat} (ho : o.op = .slice t x none (some j) none) (hx : a.eval x = .string s) (hj : a.eval j = .int k (n : Int)) (ht : P.underlying t = some .string) (hn : n ≤ s.size) :
 (execOp a.eval o).run P w = .ok (.value (.string (s.extract 0 n))) w := by
 unfold execOp;have := run_slice_string_h (P := P) w t s ht k (n : Int) (by omega) (by omega);simp only [Int.toNat_natCast] at this;simp only [ho, Option.map_some, Option.map_none, hx, hj, run_sliceAt_string w t _ _ _ _ ht, Sem.run_bind, Sem.run_pure, Result.andThen_ok, this]
theorem exec_slF (x j : Operand) {t : TypeId} {s : ByteArray} {k : IntKind} {n : Nat} (ho : o.op = .slice t x (some j) none none) (hx : a.eval x = .string s) (hj : a.eval j = .int k (n : Int)) (ht : P.underlying t = some .string) (hn : n ≤ s.size) :
 (execOp a.eval o).run P w = .ok (.value (.string (s.extract n s.size))) w := by
 unfold execOp;have := run_slice_string_l (P := P) w t s ht k (n : Int) (by omega) (by omega);simp only [Int.toNat_natCast] at this;simp only [ho, Option.map_some, Option.map_none, hx, hj, run_sliceAt_string w t _ _ _ _ ht, Sem.run_bind, Sem.run_pure, Result.andThen_ok, this]
theorem run_cat {t : TypeId} {s u : ByteArray} (h : s.size + u.size ≤ 9223372036854775807) : (binOp .add t (.string s) (.string u)).run P w = .ok (.string (s ++ u)) w := by
 show (Op.stringOp .add s u).run P w = _;rw [run_string_add_if, if_neg (by omega)]
theorem exec_ixS (x ix : Operand) {t : TypeId} {s : ByteArray} {k : IntKind} {i : Nat} (ho : o.op = .index t x ix) (hx : a.eval x = .string s) (hi : a.eval ix = .int k (i : Int)) (ht : P.underlying t = some .string) (hlt : i < s.size) :
 (execOp a.eval o).run P w = .ok (.value (.int .u8 ((s.data.toList.getD i 0).toNat : Int))) w := by
 unfold execOp
 have e : (s[i]'hlt) = s.data.toList.getD i 0 := by
  (have h1 : i < s.data.toList.length := by rw [Array.length_toList]; exact hlt);rw [List.getD_eq_getElem?_getD, List.getElem?_eq_getElem h1]; rfl
 have := run_index_string (P := P) w t s k (i : Int) ht;rw [dif_pos (show 0 ≤ (i : Int) ∧ (i : Int) < s.size from ⟨by omega, by omega⟩)] at this;simp only [Int.toNat_natCast] at this;rw [e] at this;simp only [ho, hx, hi, Sem.run_bind, Sem.run_pure, Result.andThen_ok, this]
variable {ops : Array Oper} {rest : List Oper} {Q : Exit → Act → World → Prop}
theorem wcv (x : Operand) (s : ByteArray) {src dst e : TypeId} (hs : P.underlying src = some .string) (hd : P.underlying dst = some (.slice e)) (he : P.underlying e = some (.int .u8))
 (h : ∀ g c z, g = w.heap.size → Below w.heap.size w z → (∀ j, j < s.size → z.cell? ⟨g, j, none⟩ = some (.int .u8 ((s.data.toList.getD j 0).toNat : Int))) → wpList P ops Q rest (a.put o.dst (.slice (some ⟨g, 0, none⟩) s.size c)) z)
 (ho : o.op = .convert src dst x := by kernel_rfl) (hx : a.eval x = .string s := by kernel_rfl) (hw : Region.wanted o (yielded ops a.tmps) = true := by kernel_rfl) : wpList P ops Q (o :: rest) a w := by
 refine wpList_w (.slice (some ⟨w.heap.size, 0, none⟩) s.size (grownCap w s.size 0 e)) (Lib.bytesWorld w e s) hw ?_ (h _ _ _ rfl (Lib.bytesWorld_below w e s) fun j hj => Lib.bytesWorld_cell w e s j hj);unfold execOp;simp only [ho, hx, Sem.run_bind, Sem.run_pure, Result.andThen_ok, Lib.run_convert_string_bytes w src dst e s hs hd he]
theorem exec_ixR (x ix : Operand) {t e : TypeId} {b n : Nat} {k : IntKind} {i : Nat} (ho : o.op = .indexAddr t x ix) (hx : a.eval x = .pointer (some ⟨b, 0, none⟩)) (hi : a.eval ix = .int k (i : Int)) (ht : P.underlying t = some (.array n e)) (hlt : i < n) (hs : (sizeOf e).run P w = .ok 1 w := by kernel_rfl) :
 (execOp a.eval o).run P w = .ok (.value (.pointer (some ⟨b, i, none⟩))) w := by
 unfold execOp;(have h1 : (0 : Int) ≤ (i : Int) ∧ (i : Int) < (n : Int) := by omega);simp only [ho, hx, hi, Instr.indexAt, Instr.sureAddr, asIntOf, Sem.run_bind, Sem.run_pure, Result.andThen_ok, run_underlying ht, h1, and_self, if_true, hs, Int.toNat_natCast, Addr.add_lit, Nat.mul_one, Nat.zero_add]
theorem exec_slR (x j : Operand) {t e : TypeId} {b n : Nat} {k : IntKind} {i : Nat} (ho : o.op = .slice t x (some j) none none) (hx : a.eval x = .pointer (some ⟨b, 0, none⟩)) (hj : a.eval j = .int k (i : Int)) (ht : P.underlying t = some (.array n e)) (hlt : i < n) (hs : (sizeOf e).run P w = .ok 1 w := by kernel_rfl) :
 (execOp a.eval o).run P w = .ok (.value (.slice (some ⟨b, i, none⟩) (n - i) (n - i))) w := by
 (have e1 : P.elem t = e := by simp [Program.elem, ht]);(have e2 : P.arrayLen t = n := by simp [Program.arrayLen, ht]);have := run_sliceAt_array_l (P := P) w t ⟨b, 0, none⟩ (by rw [e1, e2]; exact ht) k (i : Int) (by omega) (by rw [e2]; omega);rw [e1, e2, hs] at this;simp only [Result.andThen_ok, Int.toNat_natCast, Nat.mul_one, slicedAt, Addr.add_lit, Nat.zero_add, if_neg (show ¬ n = i by omega)] at this;unfold execOp;simp only [ho, hx, hj, Option.map_some, Option.map_none, Sem.run_bind, Sem.run_pure, Result.andThen_ok, this]
theorem exec_bs (x : Operand) {src dst e : TypeId} {A : Option Addr} {l : List UInt8} {len c B : Nat} (ho : o.op = .convert src dst x) (hx : a.eval x = .slice A len c) (hs : P.underlying src = some (.slice e)) (he : P.underlying e = some (.int .u8)) (hd : P.underlying dst = some .string) (hl : len = l.length) (hA : Rd w B A (bc l)) :
 (execOp a.eval o).run P w = .ok (.value (.string ⟨l.toArray⟩)) w := by
 subst hl;unfold execOp;simp only [ho, hx, Sem.run_bind, Sem.run_pure, Result.andThen_ok, run_string_rd w src e dst hs he hd B A c l hA]
theorem ws1 (ty : TypeId) (b f : Nat) (v : Value) {old : List Value} {t : TypeId} (hz : w.heap[b]? = some (.cells old.toArray t (0, 0))) (hf : f < old.length) (h : ∀ z, w.grownBy z (some b) → z.heap[b]? = some (.cells (old.set f v).toArray t (0, 0)) → wpList P ops Q rest a z)
 (hi : (P.info? ty).map (·.size) = some 1 := by kernel_rfl) (hcs : v.cells = #[v] := by kernel_rfl) (h1 : v.oneCell' = true := by kernel_rfl)
 (hs : stOf a o.op = some (ty, .pointer (some ⟨b, f, none⟩), v) := by kernel_rfl) (hw : Region.wanted o (yielded ops a.tmps) = true := by kernel_rfl) (hd : o.dst = none := by kernel_rfl) : wpList P ops Q (o :: rest) a w := by
 obtain ⟨x, y, ho, hx, hy⟩ := stOf_eq hs;refine wpList_storeC ty b f v [v] (rowThere hz (by show f + 1 ≤ _; omega)) hcs hi (all1 h1) x y hw ho hx hy ?_;rw [hd];exact h _ (stG rfl) (stN rfl hz)
theorem exec_cat (x y : Operand) {t t2 : TypeId} {l m : List UInt8} (ho : o.op = .binOp .add t x y t2) (hx : a.eval x = .string ⟨l.toArray⟩) (hy : a.eval y = .string ⟨m.toArray⟩) (h : l.length + m.length ≤ 9223372036854775807) : (execOp a.eval o).run P w = .ok (.value (.string ⟨(l ++ m).toArray⟩)) w := by
 have h1 := run_bin (P := P) (w := w) (a := a) (o := o) .add t t2 x y _ _ _ ho hx hy (by rfl) (run_cat (P := P) (w := w) (t := t) (s := ⟨l.toArray⟩) (u := ⟨m.toArray⟩) (by show l.toArray.size + m.toArray.size ≤ _; simpa using h));rw [h1]
 congr 3
theorem ext_take (l : List UInt8) (n : Nat) : (⟨l.toArray⟩ : ByteArray).extract 0 n = ⟨(l.take n).toArray⟩ := by
 apply ByteArray.ext
 simp
theorem ext_drop (s : ByteArray) (n : Nat) : (s.extract n s.size).data.toList = s.data.toList.drop n := by
 rw [Lib.size_eq];simp [List.drop_eq_nil_of_le, List.take_of_length_le]
end
end
end Go.Proofs.YtimfoimcaapodaaDoor
