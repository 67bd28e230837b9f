/- Arguments of composite types, opened cell by cell. No condition. -/
import Derived.Test.YtjofjpmhokjhnaaDoorBase
namespace Go.Proofs.YtjofjpmhokjhnaaDoor
set_option maxRecDepth 20000
open Go.RowKit Go.ChangeShapes Go.WideShapes Go.ChangeAt Go.Deep
set_option linter.unusedSimpArgs false
set_option linter.unusedVariables false

/-- cells that read as a value of type t -/
def Cel (W : World) (t : TypeId) (cs : List Value) : Prop :=
  ∃ (H : Type) (enc : TypeId × Value → H) (fuel : Nat) (x : DataW H × List MemPlace), DataW.trod enc Tryd.prog W 0 (fun _ => true) true fuel t cs = some x

section
variable {W : World} {t : TypeId} {v : Value} {cs : List Value}
theorem Arg.struct {fs : Array Field} (h : Arg W t v) (ht : Tryd.prog.underlying t = some (.struct fs)) : ∃ cs : Array Value, v = .agg cs ∧ Cel W t cs.toList := by
  obtain ⟨⟨base, h1⟩, H, enc, d, ps, fuel, h2⟩ := h
  obtain ⟨cs, rfl, _⟩ := okWide_struct ht h1
  exact ⟨cs, rfl, H, enc, fuel, _, h2⟩
theorem Arg.array {n : Nat} {e : TypeId} (h : Arg W t v) (ht : Tryd.prog.underlying t = some (.array n e)) : ∃ cs : Array Value, v = .agg cs ∧ Cel W t cs.toList := by
  obtain ⟨⟨base, h1⟩, H, enc, d, ps, fuel, h2⟩ := h
  simp only [Value.okWide, ht] at h1
  obtain ⟨cs, rfl, _⟩ := h1
  exact ⟨cs, rfl, H, enc, fuel, _, h2⟩
theorem Arg.slice {e : TypeId} (h : Arg W t v) (ht : Tryd.prog.underlying t = some (.slice e)) : ∃ (A : Option Addr) (n c : Nat), v = .slice A n c ∧ Cel W t [.slice A n c] := by
  obtain ⟨⟨base, h1⟩, H, enc, d, ps, fuel, h2⟩ := h
  obtain ⟨A, n, c, rfl⟩ := okWide_slice ht h1
  exact ⟨A, n, c, rfl, H, enc, fuel, _, h2⟩

theorem Cel.int {k : IntKind} (h : Cel W t cs) (ht : Tryd.prog.underlying t = some (.int k)) : ∃ a, cs = [.int k a] ∧ (Lit.int k a).wf = true := by
  obtain ⟨H, enc, fuel, x, h⟩ := h
  obtain ⟨a, h1, _, h2⟩ := DataW.trod_int ht h
  exact ⟨a, h1, h2⟩
theorem Cel.u64 (h : Cel W t cs) (ht : Tryd.prog.underlying t = some (.int .u64)) : ∃ a : Nat, cs = [.int .u64 (a : Int)] ∧ a < 18446744073709551616 := by
  obtain ⟨a, rfl, w⟩ := h.int ht
  have := bounds_u64 w
  exact ⟨a.toNat, by rw [Int.toNat_of_nonneg this.1], by omega⟩
theorem Cel.u32 (h : Cel W t cs) (ht : Tryd.prog.underlying t = some (.int .u32)) : ∃ a : Nat, cs = [.int .u32 (a : Int)] ∧ a < 4294967296 := by
  obtain ⟨a, rfl, w⟩ := h.int ht
  have := bounds_u32 w
  exact ⟨a.toNat, by rw [Int.toNat_of_nonneg this.1], by omega⟩
theorem Cel.u8 (h : Cel W t cs) (ht : Tryd.prog.underlying t = some (.int .u8)) : ∃ a : Nat, cs = [.int .u8 (a : Int)] ∧ a < 256 := by
  obtain ⟨a, rfl, w⟩ := h.int ht
  have := bounds_u8 w
  exact ⟨a.toNat, by rw [Int.toNat_of_nonneg this.1], by omega⟩
theorem Cel.i64 (h : Cel W t cs) (ht : Tryd.prog.underlying t = some (.int .i64)) : ∃ a : Int, cs = [.int .i64 a] ∧ -9223372036854775808 ≤ a ∧ a ≤ 9223372036854775807 := by
  obtain ⟨a, rfl, w⟩ := h.int ht
  have := bounds_i64 w
  exact ⟨a, rfl, by omega, by omega⟩
theorem Cel.bool (h : Cel W t cs) (ht : Tryd.prog.underlying t = some .bool) : ∃ b, cs = [.bool b] := by
  obtain ⟨H, enc, fuel, x, h⟩ := h
  obtain ⟨a, h1, _⟩ := DataW.trod_bool ht h
  exact ⟨a, h1⟩
theorem Cel.string (h : Cel W t cs) (ht : Tryd.prog.underlying t = some .string) : ∃ s : ByteArray, cs = [.string s] ∧ s.size ≤ 9223372036854775807 := by
  obtain ⟨H, enc, fuel, x, h⟩ := h
  obtain ⟨a, h1, _, h2⟩ := DataW.trod_string ht h
  exact ⟨a, h1, by unfold maxLen at h2; omega⟩
theorem Cel.len {fs : Array Field} (h : Cel W t cs) (ht : Tryd.prog.underlying t = some (.struct fs)) : cs.length = Tryd.prog.cellsOf t := by
  obtain ⟨H, enc, fuel, x, h⟩ := h
  obtain ⟨_, _, _, _, h1, _⟩ := DataW.trod_struct ht h
  exact h1
theorem Cel.lenA {n : Nat} {e : TypeId} (h : Cel W t cs) (ht : Tryd.prog.underlying t = some (.array n e)) : cs.length = Tryd.prog.cellsOf t := by
  obtain ⟨H, enc, fuel, x, h⟩ := h
  obtain ⟨_, _, _, _, h1, _⟩ := DataW.trod_array ht h
  exact h1
theorem Cel.field {fs : Array Field} (h : Cel W t cs) (ht : Tryd.prog.underlying t = some (.struct fs)) (j : Nat) (f : Field) (hj : fs[j]? = some f) : Cel W f.type ((cs.drop f.offset).take (Tryd.prog.cellsOf f.type)) := by
  obtain ⟨H, enc, fuel, x, h⟩ := h
  obtain ⟨xs, n, _, _, _, hl, hf⟩ := DataW.trod_struct ht h
  have hjl : j < xs.length := by rw [hl]; exact (Array.getElem?_eq_some_iff.1 hj).1
  have h1 := hf j f hj
  rw [List.getElem?_eq_getElem hjl] at h1
  exact ⟨H, enc, n, _, h1⟩
/-- a field of one cell -/
theorem Cel.field1 {fs : Array Field} (h : Cel W t cs) (ht : Tryd.prog.underlying t = some (.struct fs)) (j o : Nat) (ft : TypeId) (f : Field) (hj : fs[j]? = some f) (ho : f.offset = o) (hty : f.type = ft) (hk : Tryd.prog.cellsOf ft = 1) (v : Value) (hv : cs[o]? = some v) : Cel W ft [v] := by
  subst ho; subst hty
  have h1 := h.field ht j f hj
  rw [hk] at h1
  have hl := (List.getElem?_eq_some_iff.1 hv).1
  rw [List.drop_eq_getElem_cons hl] at h1
  have e : cs[f.offset] = v := (List.getElem?_eq_some_iff.1 hv).2
  rw [e] at h1
  exact h1
theorem Cel.elem {n : Nat} {e : TypeId} (h : Cel W t cs) (ht : Tryd.prog.underlying t = some (.array n e)) (i : Nat) (hi : i < n) : Cel W e ((cs.drop (i * Tryd.prog.cellsOf e)).take (Tryd.prog.cellsOf e)) := by
  obtain ⟨H, enc, fuel, x, h⟩ := h
  obtain ⟨xs, m, _, _, _, hl, hf⟩ := DataW.trod_array ht h
  have h1 := hf i hi
  rw [List.getElem?_eq_getElem (show i < xs.length by omega)] at h1
  exact ⟨H, enc, m, _, h1⟩
/-- the cells of a slice that came in: element i, cell by cell -/
theorem Cel.slice {e : TypeId} {A : Option Addr} {n c : Nat} (h : Cel W t [.slice A n c]) (ht : Tryd.prog.underlying t = some (.slice e)) :
    (A = none ∧ n = 0 ∧ c = 0) ∨ (n ≤ c ∧ c ≤ maxLen ∧ ∃ a, A = some a ∧ ∀ i, i < n → ∃ cs' : List Value, cs'.length = Tryd.prog.cellsOf e ∧ Cel W e cs' ∧ ∀ j, j < Tryd.prog.cellsOf e → W.cell? ((a.add (i * Tryd.prog.cellsOf e)).add j) = cs'[j]?) := by
  obtain ⟨H, enc, fuel, x, h⟩ := h
  rcases open_slice ht h with ⟨h1, _⟩ | ⟨a, len, cap, m, k, D, Pl, h1, _, hl, hm, hmm, _, hi⟩
  · simp at h1
    exact Or.inl h1
  · simp at h1
    obtain ⟨rfl, rfl, rfl⟩ := h1
    refine Or.inr ⟨hl, hm, a, rfl, fun i hi' => ?_⟩
    obtain ⟨cs', hc, ht'⟩ := hi i (by simp at hmm; omega)
    obtain ⟨_, hcl, hat⟩ := World.cells?_some hc
    exact ⟨cs', hcl, ⟨H, enc, k, _, ht'⟩, hat⟩
/-- the same, the address written out -/
theorem Cel.sliceAt {e : TypeId} {A : Option Addr} {n c : Nat} (h : Cel W t [.slice A n c]) (ht : Tryd.prog.underlying t = some (.slice e)) (sz : Nat) (hsz : Tryd.prog.cellsOf e = sz) (hpos : 0 < sz) :
    n ≤ c ∧ c ≤ maxLen ∧ (A = none → n = 0 ∧ c = 0) ∧ (0 < n → ∃ b off, A = some ⟨b, off, none⟩ ∧ b < W.heap.size ∧ ∀ i, i < n → ∃ cs' : List Value, cs'.length = sz ∧ Cel W e cs' ∧ ∀ j, j < sz → W.cell? ⟨b, off + i * sz + j, none⟩ = cs'[j]?) := by
  subst hsz
  rcases h.slice ht with ⟨rfl, rfl, rfl⟩ | ⟨hn, hc, a, rfl, hi⟩
  · exact ⟨Nat.le_refl _, by simp [maxLen], fun _ => ⟨rfl, rfl⟩, fun h => absurd h (by omega)⟩
  · refine ⟨hn, hc, fun h => by simp at h, fun h0 => ?_⟩
    obtain ⟨cs0, hl0, _, hat0⟩ := hi 0 h0
    have h00 := hat0 0 hpos
    rw [List.getElem?_eq_getElem (by omega)] at h00
    have e0 : (a.add (0 * Tryd.prog.cellsOf e)) = a := by simp [Addr.add]
    rw [e0] at h00
    obtain ⟨b, off, rfl⟩ := spotNone h00
    refine ⟨b, off, rfl, ?_, fun i hi' => ?_⟩
    · rw [Addr.add_lit] at h00
      exact World.block_lt_of_cell? W _ h00
    · obtain ⟨cs', hl, hc', hat⟩ := hi i hi'
      refine ⟨cs', hl, hc', fun j hj => ?_⟩
      have := hat j hj
      rw [Addr.add_lit, Addr.add_lit] at this
      exact this
theorem Arg.u64pair {e : TypeId} (h : Arg W t v) (ht : Tryd.prog.underlying t = some (.array 2 e)) (he : Tryd.prog.underlying e = some (.int .u64)) (hce : Tryd.prog.cellsOf e = 1) (hct : Tryd.prog.cellsOf t = 2) :
    ∃ x y : Nat, v = .agg #[.int .u64 (x : Int), .int .u64 (y : Int)] ∧ x < 18446744073709551616 ∧ y < 18446744073709551616 := by
  obtain ⟨⟨cs⟩, rfl, hc⟩ := h.array ht
  have hl := hc.lenA ht
  rw [hct] at hl
  match cs, hl with
  | [a, b], _ =>
    have h0 := hc.elem ht 0 (by omega)
    have h1 := hc.elem ht 1 (by omega)
    rw [hce] at h0 h1
    obtain ⟨x, e0, hx⟩ := h0.u64 he
    obtain ⟨y, e1, hy⟩ := h1.u64 he
    simp at e0 e1
    subst e0; subst e1
    exact ⟨x, y, rfl, hx, hy⟩
theorem Arg.i64pair {e : TypeId} (h : Arg W t v) (ht : Tryd.prog.underlying t = some (.array 2 e)) (he : Tryd.prog.underlying e = some (.int .i64)) (hce : Tryd.prog.cellsOf e = 1) (hct : Tryd.prog.cellsOf t = 2) :
    ∃ x y : Int, v = .agg #[.int .i64 x, .int .i64 y] ∧ -9223372036854775808 ≤ x ∧ x ≤ 9223372036854775807 ∧ -9223372036854775808 ≤ y ∧ y ≤ 9223372036854775807 := by
  obtain ⟨⟨cs⟩, rfl, hc⟩ := h.array ht
  have hl := hc.lenA ht
  rw [hct] at hl
  match cs, hl with
  | [a, b], _ =>
    have h0 := hc.elem ht 0 (by omega)
    have h1 := hc.elem ht 1 (by omega)
    rw [hce] at h0 h1
    obtain ⟨x, e0, hx⟩ := h0.i64 he
    obtain ⟨y, e1, hy⟩ := h1.i64 he
    simp at e0 e1
    subst e0; subst e1
    exact ⟨x, y, rfl, hx.1, hx.2, hy.1, hy.2⟩
end

end Go.Proofs.YtjofjpmhokjhnaaDoor
