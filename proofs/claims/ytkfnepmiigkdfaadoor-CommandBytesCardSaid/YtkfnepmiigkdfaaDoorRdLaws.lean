/- A reader's block among blocks that are made: what is kept. No condition. -/
import Derived.Test.YtkfnepmiigkdfaaDoorTioP
import Derived.Test.YtkfnepmiigkdfaaDoorRowLaws
import Derived.Great.BuildSlice
namespace Go.Proofs.YtkfnepmiigkdfaaDoor
set_option maxRecDepth 20000
open Go.RowKit T
set_option linter.unusedSimpArgs false
set_option linter.unusedVariables false
section
variable {w z : World} {B g k : Nat} {s : C.St} {old cs : Array Value} {t : TypeId}
theorem grownRow (z : World) (k : Nat) (cs : Array Value) : z.grownBy (z.setRow k cs) (some k) := ⟨rfl, rfl, rfl, by rw [setRow_size]; exact Nat.le_refl _, fun i _ hi => setRow_other z k i cs (fun e => hi (by rw [e]))⟩
theorem grownRowNew (h : w.grownBy z (some g)) (hk : w.heap.size ≤ k) (hz : z.heap[k]? = some (.cells old t (0, 0))) : w.grownBy (z.setRow k cs) (some g) :=
  ⟨h.os, h.tape, h.output, by rw [setRow_size]; exact h.size, fun i hi hne => (setRow_other z k i cs (by omega)).trans (h.block i hi hne)⟩
theorem RdrAt.row (h : RdrAt z B g s) (hk : k ≠ g) (hB : B ≤ k) : RdrAt (z.setRow k cs) B g s := h.other (grownRow z k cs) hk hB
theorem grownDrewS (h : w.grownBy z (some g)) : w.grownBy z.drew (some g) := ⟨h.os, h.tape, h.output, h.size, h.block⟩
theorem RdrAt.drewS (h : RdrAt z B g s) : RdrAt z.drew B g s := h
theorem RdrAt.lt (h : RdrAt z B g s) : g < z.heap.size ∧ B ≤ g := by
  obtain ⟨A, c, hb, _, _, _, _, hB⟩ := h
  exact ⟨ltAt hb, hB⟩
theorem ownSet1 {base e size n k : Nat} {z : World} {v : Value} {xs : List Value} (h : z.ownsRow base e size v n xs) (hne : v.ownBlock ≠ some k) (i : Nat) (u : Value) : (z.setCells k i [u]).ownsRow base e size v n xs := h.kept (grownSet z k i u) (Or.inr hne)
theorem ownNe {base e size n : Nat} {v : Value} {xs : List Value} (h : z.ownsRow base e size v n xs) (hg : g < base) : v.ownBlock = none ∨ v.ownBlock ≠ some g := by
  cases hb : v.ownBlock with
  | none => exact Or.inl rfl
  | some q => exact Or.inr (fun e => by have := (h.lt q hb).1; injection e with e; omega)
theorem ownRowK {base e size n : Nat} {v : Value} {xs : List Value} (h : z.ownsRow base e size v n xs) (hne : v.ownBlock ≠ some k) : (z.setRow k cs).ownsRow base e size v n xs := by
  refine h.kept (grownRow z k cs) ?_
  exact Or.inr hne
theorem take_bound (k : Nat) (s : C.St) (hk : k ≤ 8) : (C.take (k : Int) s).1 < 256 ^ k := take_lt k s hk
end
theorem wrapI {n : Nat} (h : n < 9223372036854775808) : IntKind.i64.wrap (n : Int) = (n : Int) := by rw [IntKind.wrap_i64]; omega
theorem many_succ {α : Type} (f : C.St → α × C.St) : ∀ (k : Nat) (a : List α × C.St), many f (k + 1) a = ((many f k a).1 ++ [(f (many f k a).2).1], (f (many f k a).2).2)
  | 0, a => rfl
  | k + 1, a => by
    show many f (k + 1) (a.1 ++ [(f a.2).1], (f a.2).2) = _
    rw [many_succ f k]
    rfl
/-- the number of elements of the slice in a cell -/
def sliceLen (w : World) (p : Addr) : Nat := match w.cell? p with | some (.slice _ n _) => n | _ => 0
theorem sliceLen_of {w : World} {p : Addr} {A : Option Addr} {n c : Nat} (h : w.cell? p = some (.slice A n c)) : sliceLen w p = n := by unfold sliceLen; rw [h]
/-- rows in an owned slice -/
theorem flat_len {α : Type} {enc : α → List Value} {sz : Nat} (hs : ∀ x, (enc x).length = sz) (l : List α) : (l.flatMap enc).length = l.length * sz := by
  induction l with
  | nil => simp
  | cons a l ih => rw [List.flatMap_cons, List.length_append, ih, hs, List.length_cons, Nat.add_mul]; omega
theorem flat_at {α : Type} {enc : α → List Value} {sz : Nat} (hs : ∀ x, (enc x).length = sz) (l : List α) (i : Nat) (a : α) (h : l[i]? = some a) (j : Nat) (v : Value) (hv : (enc a)[j]? = some v) : (l.flatMap enc)[i * sz + j]? = some v := by
  induction l generalizing i with
  | nil => simp at h
  | cons x l ih =>
    have hj : j < sz := by have := (List.getElem?_eq_some_iff.1 hv).1; rwa [hs] at this
    rw [List.flatMap_cons]
    cases i with
    | zero =>
      simp at h; subst h
      rw [Nat.zero_mul, Nat.zero_add, List.getElem?_append_left (by rw [hs]; exact hj)]
      exact hv
    | succ i =>
      rw [List.getElem?_append_right (by rw [hs, Nat.add_mul]; omega), hs, show (i + 1) * sz + j - sz = i * sz + j by rw [Nat.add_mul]; omega]
      exact ih i (by simpa using h)
theorem rowsOwn {α : Type} {enc : α → List Value} {sz : Nat} (hs : ∀ x, (enc x).length = sz) {w : World} {base e n : Nat} {v : Value} {l : List α} (h : w.ownsRow base e sz v n (l.flatMap enc)) (hn : n = l.length) :
    ∃ (A : Option Addr) (c : Nat), v = .slice A l.length c ∧ l.length ≤ c ∧ c ≤ maxLen ∧ RowsAt w w.heap.size A sz (l.map enc) := by
  subst hn
  obtain ⟨A0, c0, hv0, hc0, _, hm0⟩ := ownShape h
  rcases h.2 with ⟨hv, h0⟩ | ⟨g, cap, cur, hv, _, hg, hle, _⟩
  · refine ⟨A0, c0, hv0, hc0, hm0, fun i cs hi => ?_⟩
    have := (List.getElem?_eq_some_iff.1 hi).1
    rw [List.length_map] at this; omega
  · rw [hv] at hv0
    injection hv0 with e1 e2 e3
    subst e1; subst e3
    subst hv
    refine ⟨_, cap, rfl, hle, hm0, fun i cs hi => ?_⟩
    rw [List.getElem?_map] at hi
    obtain ⟨a, ha, rfl⟩ := Option.map_eq_some_iff.1 hi
    refine ⟨g, 0, rfl, (Array.getElem?_eq_some_iff.1 hg).1, fun j v hv => ?_⟩
    have c1 := h.cells (g := g) rfl _ _ (flat_at hs l i a ha j v hv)
    rw [Addr.add_lit] at c1
    simpa [Nat.add_assoc] using c1
theorem TabsAt.drewS {B : Nat} {z : World} (h : TabsAt B z) : TabsAt B z.drew := by obtain ⟨W0, h0, hs, hb⟩ := h; exact ⟨W0, h0, hs, belowDrewS hb⟩
theorem TabsAt.row {B k : Nat} {z : World} {cs : Array Value} (h : TabsAt B z) (hB : B ≤ k) : TabsAt B (z.setRow k cs) := h.grown (grownRow z k cs) hB
theorem TabsAt.set1 {B k : Nat} {z : World} (h : TabsAt B z) (hB : B ≤ k) (i : Nat) (u : Value) : TabsAt B (z.setCells k i [u]) := h.grown (grownSet z k i u) hB
theorem RdrAt.set1 {B g k : Nat} {z : World} {s : C.St} (h : RdrAt z B g s) (hk : k ≠ g) (hB : B ≤ k) (i : Nat) (u : Value) : RdrAt (z.setCells k i [u]) B g s := h.setNew hk hB i u
theorem grownSet1 {w z : World} {g k : Nat} (h : w.grownBy z (some g)) (hk : w.heap.size ≤ k) (i : Nat) (u : Value) : w.grownBy (z.setCells k i [u]) (some g) := grownSetNew h hk i u
theorem rowAdd {w : World} {g : Nat} {cs : List Value} {t : TypeId} (h : w.heap[g]? = some (.cells cs.toArray t (0, 0))) : ∀ j v, cs[j]? = some v → w.cell? ((⟨g, 0, none⟩ : Addr).add j) = some v := fun j v hv => by
  rw [Addr.add_mid]; exact rowAt h j v hv
theorem encR_mem (r : Rd1) : ∀ u ∈ encR r, u.oneCell' = true := fun u hu => (Array.all_eq_true_iff_forall_mem.1 (encR_one r)) u (by simpa using hu)
theorem encW_mem (r : Wr1) : ∀ u ∈ encW r, u.oneCell' = true := fun u hu => (Array.all_eq_true_iff_forall_mem.1 (encW_one r)) u (by simpa using hu)
theorem fillR (x : Rd1) (cells : Array Value) (hn : cells.size = 2) : Instr.fill (fun i => some (i * 2, 2)) cells [(0, .agg (encR x).toArray)] = some (encR x).toArray := by
  have := Great.fill_whole (s := 2) (by omega) [Value.agg (encR x).toArray] cells (by intro v hv; simp at hv; subst hv; rfl) (by simp [hn])
  simpa [Value.cells] using this
theorem fillW (x : Wr1) (cells : Array Value) (hn : cells.size = 4) : Instr.fill (fun i => some (i * 4, 4)) cells [(0, .agg (encW x).toArray)] = some (encW x).toArray := by
  have := Great.fill_whole (s := 4) (by omega) [Value.agg (encW x).toArray] cells (by intro v hv; simp at hv; subst hv; rfl) (by simp [hn])
  simpa [Value.cells] using this
theorem info_rd : (Tryd.prog.info? 114).map (fun i => (i.zero, i.size, i.bytes)) = some (some (.agg #[.string ⟨#[]⟩, .int .u64 0]), 2, 24) := by kernel_rfl
theorem info_wr : (Tryd.prog.info? 118).map (fun i => (i.zero, i.size, i.bytes)) = some (some (.agg #[.string ⟨#[]⟩, .int .i64 0, .int .u64 0, .string ⟨#[]⟩]), 4, 48) := by kernel_rfl
theorem text_len (most : Int) (s : C.St) : (C.text most s).1.length ≤ 65535 := by
  have h := take_bound 2 s (by omega)
  unfold C.text
  generalize C.take 2 s = r at h
  unfold C.some_
  split
  · simp
  · have h2 : r.1 < 65536 := h
    simp only [List.length_take]; omega
theorem okR_snoc {rs : List Rd1} {t : List UInt8} {v : Nat} (h : ∀ x ∈ rs, okR x) (ht : t.length ≤ 65535) (hv : v < 18446744073709551616) : ∀ x ∈ rs ++ [(t, v)], okR x := fun x hx => by
  rcases List.mem_append.1 hx with hx | hx
  · exact h x hx
  · rw [List.mem_singleton] at hx; subst hx; exact ⟨by show t.length ≤ _; omega, hv⟩
theorem rowsOwnK {α : Type} {enc : α → List Value} {sz : Nat} (hs : ∀ x, (enc x).length = sz) {w : World} {base e n c : Nat} {A : Option Addr} {l : List α} (h : w.ownsRow base e sz (.slice A n c) n (l.flatMap enc)) (hn : n = l.length) :
    l.length ≤ c ∧ c ≤ maxLen ∧ RowsAt w w.heap.size A sz (l.map enc) := by
  obtain ⟨A', c', h1, h2, h3, h4⟩ := rowsOwn hs h hn
  injection h1 with e1 e2 e3
  subst e1; subst e3
  exact ⟨h2, h3, h4⟩
theorem txOwn {w : World} {base n1 c1 n2 c2 : Nat} {A1 A2 : Option Addr} {rs : List Rd1} {ws : List Wr1} (hu : w.ownsRow base 114 2 (.slice A1 n1 c1) n1 (rs.flatMap encR)) (hv : w.ownsRow base 118 4 (.slice A2 n2 c2) n2 (ws.flatMap encW))
    (h1 : rs.length = n1) (h2 : ws.length = n2) (ho : ∀ x ∈ rs, okR x) (hw : ∀ x ∈ ws, okW x) : TxOk w w.heap.size rs ws A1 c1 A2 c2 := by
  obtain ⟨a1, a2, a3⟩ := rowsOwnK (enc := encR) (sz := 2) (fun _ => rfl) hu h1.symm
  obtain ⟨b1, b2, b3⟩ := rowsOwnK (enc := encW) (sz := 4) (fun _ => rfl) hv h2.symm
  exact ⟨a3, b3, a1, b1, a2, b2, ho, hw⟩
theorem vtake_ok (s : C.St) : (V.take s).1.2.1 < 18446744073709551616 ∧ (V.take s).1.2.2.length ≤ 65535 := by
  have h8 : ∀ t, (C.take 8 t).1 < 18446744073709551616 := fun t => take_bound 8 t (by omega)
  unfold V.take
  split
  · exact ⟨by show 0 < _; omega, by show 0 ≤ _; omega⟩
  · unfold V.take0
    split
    · exact ⟨h8 _, by show 0 ≤ _; omega⟩
    · split
      · exact ⟨by show 0 < _; omega, text_len _ _⟩
      · exact ⟨by show 0 < _; omega, by show 0 ≤ _; omega⟩
theorem okW_snoc {rs : List Wr1} {t : List UInt8} {k : Int} {v : Nat} {u : List UInt8} (h : ∀ x ∈ rs, okW x) (ht : t.length ≤ 65535) (hv : v < 18446744073709551616) (hu : u.length ≤ 65535) : ∀ x ∈ rs ++ [(t, k, v, u)], okW x := fun x hx => by
  rcases List.mem_append.1 hx with hx | hx
  · exact h x hx
  · rw [List.mem_singleton] at hx; subst hx; exact ⟨by show t.length ≤ _; omega, hv, by show u.length ≤ _; omega⟩
/-- what lies in blocks that were made since, as long as these are kept -/
theorem ownFresh {w z : World} {base e size n : Nat} {v : Value} {xs : List Value} (h : w.ownsRow base e size v n xs) (hk : ∀ i, base ≤ i → i < w.heap.size → z.heap[i]? = w.heap[i]?) : z.ownsRow base e size v n xs := by
  rcases h.2 with h0 | ⟨g, cap, cur, hv, hb', hg, rest⟩
  · exact ⟨h.1, Or.inl h0⟩
  · exact ⟨h.1, Or.inr ⟨g, cap, cur, hv, hb', (hk g hb' (ltAt hg)).trans hg, rest⟩⟩
theorem RdrAt.setN {B g k : Nat} {s : C.St} (hk : k ≠ g) (hB : B ≤ k) : ∀ (vs : List Value) (i : Nat) (z : World), RdrAt z B g s → RdrAt (z.setCells k i vs) B g s
  | [], _, _, h => h
  | v :: r, i, z, h => RdrAt.setN hk hB r (i + 1) (z.setCell ⟨k, i, none⟩ v) (h.setNew hk hB i v)
theorem grownSetN {w : World} {g k : Nat} (hk : w.heap.size ≤ k) : ∀ (vs : List Value) (i : Nat) (z : World), w.grownBy z (some g) → w.grownBy (z.setCells k i vs) (some g)
  | [], _, _, h => h
  | v :: r, i, z, h => grownSetN hk r (i + 1) (z.setCell ⟨k, i, none⟩ v) (grownSetNew h hk i v)
theorem TabsAt.setN {B k : Nat} (hB : B ≤ k) : ∀ (vs : List Value) (i : Nat) (z : World), TabsAt B z → TabsAt B (z.setCells k i vs)
  | [], _, _, h => h
  | v :: r, i, z, h => TabsAt.setN hB r (i + 1) (z.setCell ⟨k, i, none⟩ v) (h.grown (grownSet z k i v) hB)
/-- steps that turn an owned row alone -/
theorem ownKind {w : World} {base e sz n k : Nat} {v : Value} {xs : List Value} {cs : Array Value} {t : TypeId} {m : Nat × Nat} (hu : w.ownsRow base e sz v n xs) (hz : w.heap[k]? = some (.cells cs t m)) (hne : t ≠ e) : v.ownBlock ≠ some k := by
  intro hb
  rcases hu.2 with ⟨hv, _⟩ | ⟨g, cap, cur, hv, _, hg, _⟩
  · rw [hv] at hb; cases hb
  · rw [hv] at hb
    have e1 : g = k := by injection hb
    subst e1
    rw [hz] at hg
    injection hg with hg
    injection hg with _ ht _
    exact hne ht
section
variable {w z z' : World} {B g k base e sz n : Nat} {v : Value} {xs : List Value} {s : C.St}
theorem heapOwn {cs : Array Value} {t : TypeId} {m : Nat × Nat} (h : z.heap[k]? = some (.cells cs t m)) (hu : z.ownsRow base e sz v n xs) (hne : t ≠ e) (hg : z.grownBy z' v.ownBlock) : z'.heap[k]? = some (.cells cs t m) :=
  (hg.block k (ltAt h) (fun e1 => ownKind hu h hne e1.symm)).trans h
theorem ownLow {i : Nat} (hu : z.ownsRow base e sz v n xs) (hi : i < base) : some i ≠ v.ownBlock := fun h => by have := (hu.lt i h.symm).1; omega
theorem grownOwn (h : w.grownBy z (some g)) (hu : z.ownsRow w.heap.size e sz v n xs) (hg : z.grownBy z' v.ownBlock) : w.grownBy z' (some g) :=
  ⟨hg.os.trans h.os, hg.tape.trans h.tape, hg.output.trans h.output, Nat.le_trans h.size hg.size, fun i hi hne => (hg.block i (Nat.lt_of_lt_of_le hi h.size) (ownLow hu hi)).trans (h.block i hi hne)⟩
theorem RdrAt.own (h : RdrAt z B g s) (hu : z.ownsRow base e sz v n xs) (hg : z.grownBy z' v.ownBlock) (hb : g < base) : RdrAt z' B g s := by
  obtain ⟨A, c, hb0, h1, h2, h3, hr, h4⟩ := h
  refine ⟨A, c, (hg.block g (ltAt hb0) (ownLow hu hb)).trans hb0, h1, h2, h3, fun j u hj => ?_, h4⟩
  obtain ⟨b, off, hA, hlt, hc⟩ := hr j u hj
  exact ⟨b, off, hA, hlt, (World.cell?_of_block (hg.block b (World.block_lt_of_cell? z _ hc) (ownLow hu (by omega)))).trans hc⟩
theorem TabsAt.own (h : TabsAt B z) (hu : z.ownsRow base e sz v n xs) (hg : z.grownBy z' v.ownBlock) (hb : B ≤ base) : TabsAt B z' := by
  obtain ⟨W0, h0, hs, hb0⟩ := h
  exact ⟨W0, h0, hs, ⟨hg.os.trans hb0.os, hg.tape.trans hb0.tape, hg.output.trans hb0.output, Nat.le_trans hb0.size hg.size, fun i hi => (hg.block i (by have := hb0.size; omega) (ownLow hu (by omega))).trans (hb0.block i hi)⟩⟩
end
end Go.Proofs.YtkfnepmiigkdfaaDoor
