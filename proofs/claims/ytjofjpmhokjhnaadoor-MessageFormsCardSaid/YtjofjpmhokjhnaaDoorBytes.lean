/- Slices of bytes in the walks: their cells, appends onto rows of the call's own, conversions. No condition. -/
import Derived.Test.YtjofjpmhokjhnaaDoorBase
import Derived.Lib.AppendStr
import Derived.Laws.BytesArg
import Derived.Laws.AppendOwnNone
namespace Go.Proofs.YtjofjpmhokjhnaaDoor
set_option maxRecDepth 20000
open Go.RowKit
set_option linter.unusedSimpArgs false
set_option linter.unusedVariables false

theorem info_u8 : (Tryd.prog.info? 5).map (fun i => (i.zero, i.size, i.bytes)) = some (some (.int .u8 0), 1, 1) := by kernel_rfl

/-- bytes as cells -/
def bc (l : List UInt8) : List Value := l.map fun (b : UInt8) => Value.int .u8 (b.toNat : Int)
theorem bc_len (l : List UInt8) : (bc l).length = l.length := by simp [bc]
theorem bc_app (l m : List UInt8) : bc (l ++ m) = bc l ++ bc m := by simp [bc]
theorem bc_drop (l : List UInt8) (k : Nat) : (bc l).drop k = bc (l.drop k) := by simp [bc]
theorem bc_take (l : List UInt8) (k : Nat) : (bc l).take k = bc (l.take k) := by simp [bc]
theorem bc_one (l : List UInt8) : ∀ u ∈ bc l, u.oneCell' = true := by
  intro u hu
  obtain ⟨b, _, rfl⟩ := List.mem_map.1 hu
  rfl
theorem bc_get (l : List UInt8) (k : Nat) (h : k < (bc l).length) : (bc l)[k] = .int .u8 ((l[k]'(by simpa [bc] using h)).toNat : Int) := by simp [bc]
theorem bc_str (s : ByteArray) : Lib.strCells s = bc s.data.toList := rfl

/-- the bytes of a slice that came in -/
theorem Arg.bytes {W : World} {t : TypeId} {v : Value} (h : Arg W t v) (ht : Tryd.prog.underlying t = some (.slice 5)) :
    ∃ (A : Option Addr) (c : Nat) (l : List UInt8), v = .slice A l.length c ∧ l.length ≤ c ∧ c ≤ maxLen ∧ (A = none → l = [] ∧ c = 0) ∧ Rd W W.heap.size A (bc l) := by
  obtain ⟨A, n, c, zs, rfl, hn, hc, hA, hz, hr, hw⟩ := h.ints (k := .u8) ht Tryd.underlying5 (by kernel_rfl)
  have e : zs.map (Value.int .u8) = bc (zs.map fun z => UInt8.ofNat z.toNat) := by
    simp only [bc, List.map_map]
    refine List.map_congr_left fun z hz => ?_
    have := bounds_u8 (hw z hz)
    simp only [Function.comp]
    have e2 : ((UInt8.ofNat z.toNat).toNat : Int) = z := by
      rw [UInt8.toNat_ofNat']; omega
    rw [e2]
  rw [e] at hr
  refine ⟨A, c, zs.map fun z => UInt8.ofNat z.toNat, by simp [hz], by simpa [hz] using hn, hc, fun h => ?_, hr⟩
  obtain ⟨h1, h2⟩ := hA h
  exact ⟨by
    have : zs = [] := List.eq_nil_of_length_eq_zero (by omega)
    simp [this], h2⟩

/-- what a function that makes bytes leaves: a row of its own that holds them -/
def MadeB (w : World) (l : List UInt8) (e : Ending) (w' : World) : Prop :=
  ∃ v, e = .returned v ∧ w'.ownsRow w.heap.size 5 1 v l.length (bc l) ∧ Below w.heap.size w w'

section
variable {P : Program} (w : World)
/-- append onto an owned row of what a slice reads as, whether it is nil, empty or not -/
theorem run_append_rd (base : Nat) (t ty e : TypeId) (i : TypeInfo) (z : Value) (bytes : Nat) (ht : P.underlying t = some (.slice e)) (hi : P.info? e = some i) (hz : i.zero = some z)
    (hsize : i.size = 1) (hby : i.bytes = bytes) (hzs : z.cells.size = 1)
    (v : Value) (n : Nat) (xs : List Value) (hown : w.ownsRow base e 1 v n xs)
    (B : Nat) (A : Option Addr) (m c : Nat) (news : List Value) (hm : news.length = m) (hA : A = none → c = 0) (hr : Rd w B A news) (h1 : ∀ u ∈ news, u.oneCell' = true)
    (h63 : n + m ≤ maxLen) (hbytes : (n + m) * bytes ≤ 140737488355328) (hbase : base ≤ w.heap.size) :
    ∃ v' w', (Builtin.append_ #[t, t] ty #[v, .slice A m c]).run P w = .ok v' w' ∧ w'.ownsRow base e 1 v' (n + m) (xs ++ news) ∧ w.grownBy w' v.ownBlock := by
  rcases A with _ | ad
  · have hn : news = [] := by
      cases news with
      | nil => rfl
      | cons x l => obtain ⟨b, off, h, _⟩ := hr 0 x rfl; cases h
    subst hn
    simp at hm
    subst hm
    obtain rfl := hA rfl
    exact ⟨v, w, run_append_owned_none w base t ty e i 1 ht hi v n xs hown, by simpa using hown, World.grownBy.refl w _⟩
  · have hcells : ∀ j u, news[j]? = some u → w.cell? (ad.add j) = some u := by
      intro j u hu
      obtain ⟨b, off, h, _, hc⟩ := hr j u hu
      injection h with h
      subst h
      rw [Addr.add_lit]; exact hc
    obtain ⟨v', w', hrun, h2, h3, _⟩ := run_append_own (P := P) w base t ty e i z 1 bytes ht hi hz hsize hby hzs (by omega) v n xs hown ad m c news (by omega) hcells h1 h63 hbytes hbase
    exact ⟨v', w', hrun, h2, h3⟩

theorem wpList_append_rd {ops : Array Oper} {rest : List Oper} {o : Oper} {a : Act} {Q : Exit → Act → World → Prop} (hgd : o.guard = none) (s x : Operand) (t : TypeId)
    (ho : o.op = .call { callee := .builtin .append, args := #[s, x], argTypes := #[t, t] })
    (base : Nat) (e : TypeId) (i : TypeInfo) (z : Value) (bytes : Nat) (ht : P.underlying t = some (.slice e)) (hi : P.info? e = some i) (hz : i.zero = some z)
    (hsize : i.size = 1) (hby : i.bytes = bytes) (hzs : z.cells.size = 1)
    (v : Value) (n : Nat) (xs : List Value) (hs : a.eval s = v) (hown : w.ownsRow base e 1 v n xs)
    (B : Nat) (A : Option Addr) (m c : Nat) (news : List Value) (hx : a.eval x = .slice A m c) (hm : news.length = m) (hA : A = none → c = 0) (hr : Rd w B A news) (h1 : ∀ u ∈ news, u.oneCell' = true)
    (h63 : n + m ≤ maxLen) (hbytes : (n + m) * bytes ≤ 140737488355328) (hbase : base ≤ w.heap.size)
    (h : ∀ v' w', w'.ownsRow base e 1 v' (n + m) (xs ++ news) → w.grownBy w' v.ownBlock → wpList P ops Q rest (a.put o.dst v') w') : wpList P ops Q (o :: rest) a w := by
  refine wpList_plain hgd fun K hK => ?_
  obtain ⟨v', w', hrun, h2, h3⟩ := run_append_rd (P := P) w base t o.type e i z bytes ht hi hz hsize hby hzs v n xs hown B A m c news hm hA hr h1 h63 hbytes hbase
  unfold Oper.wp execOp
  simp only [ho, resolve, invoke, builtin, Sem.run_bind, Sem.run_pure, Result.andThen_ok, List.map_toArray, List.map_cons, List.map_nil, hs, hx, hrun]
  exact hK _ _ (h v' w' h2 h3)
end

/-- behind the append of one byte -/
theorem appB {w wr w2 : World} {v v' : Value} {cur : List UInt8} {b : UInt8} {o : Obj} (hown : wr.ownsRow w.heap.size 5 1 v cur.length (bc cur)) (hbel : Below w.heap.size w wr)
    (hown' : w2.ownsRow w.heap.size 5 1 v' (cur.length + 1) (bc cur ++ [.int .u8 (b.toNat : Int)])) (hgrow : (wr.alloc o).grownBy w2 v.ownBlock) :
    w2.ownsRow w.heap.size 5 1 v' (cur ++ [b]).length (bc (cur ++ [b])) ∧ Below w.heap.size w w2 := by
  refine ⟨?_, (hbel.alloc hbel.size _).grown hgrow (by have := hbel.size; simp; omega) (fun g hg => (hown.lt g hg).1)⟩
  rw [bc_app]; simpa [bc] using hown'
/-- behind the append of many -/
theorem appM {w wr w2 : World} {v v' : Value} {cur l : List UInt8} {n : Nat} (hown : wr.ownsRow w.heap.size 5 1 v cur.length (bc cur)) (hbel : Below w.heap.size w wr)
    (hown' : w2.ownsRow w.heap.size 5 1 v' n (bc cur ++ bc l)) (hn : n = cur.length + l.length) (hgrow : wr.grownBy w2 v.ownBlock) :
    w2.ownsRow w.heap.size 5 1 v' (cur ++ l).length (bc (cur ++ l)) ∧ Below w.heap.size w w2 := by
  refine ⟨?_, hbel.grown hgrow hbel.size (fun g hg => (hown.lt g hg).1)⟩
  rw [bc_app, List.length_append, ← hn]; exact hown'

/-- string(b): the bytes of a slice, as a string -/
theorem run_string_rd {P : Program} (w : World) (src e dst : TypeId) (hs : P.underlying src = some (.slice e)) (he : P.underlying e = some (.int .u8)) (hd : P.underlying dst = some .string)
    (B : Nat) (A : Option Addr) (c : Nat) (l : List UInt8) (hA : Rd w B A (bc l)) : (convert src dst (.slice A l.length c)).run P w = .ok (.string ⟨l.toArray⟩) w := by
  cases l with
  | nil =>
    cases A with
    | none => exact run_convert_bytes_nil w src e hs he _ _ dst hd
    | some a =>
      rw [run_convert_bytes_string w src dst e _ _ c hs he hd]
      have := run_bytesToString (P := P) w a 0 c [] (by simp [loadCells, loadCellsFrom])
      simp only [List.foldl_nil] at this
      exact this
  | cons b bs =>
    obtain ⟨blk, off, rfl, _, _⟩ := hA 0 _ rfl
    have h := run_convert_bytes_arg (P := P) w src e hs he blk off (b :: bs).length c ((b :: bs).map fun x => (x.toNat : Int)) (by simp) (fun i hi => by
      obtain ⟨b2, off2, h2, _, hc⟩ := hA i (.int .u8 (((b :: bs)[i]'hi).toNat : Int)) (by unfold bc; rw [List.getElem?_map, List.getElem?_eq_getElem hi]; rfl)
      injection h2 with h2
      injection h2 with h3 h4
      subst h3; subst h4
      rw [hc]
      rw [List.getD_eq_getElem?_getD, List.getElem?_map, List.getElem?_eq_getElem hi]; rfl) dst hd
    rw [h]
    congr 2
    have e : ∀ l : List UInt8, strOfNums (l.map fun x => (x.toNat : Int)) = ⟨l.toArray⟩ := by
      intro l
      unfold strOfNums
      congr 1
      simp [List.map_map, Function.comp_def]
    exact e _

end Go.Proofs.YtjofjpmhokjhnaaDoor
