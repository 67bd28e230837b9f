import Derived.Test.YtimfoimcaapodaaDoorRows
import Derived.WalkKit
import Derived.WalkSpells
import Derived.WalkLawsBesides
import Derived.Lib.Hide
import Derived.Deep.DeepCutAuto
import Derived.Deep.DeepFit
import Derived.Deep.QuietTactic
import Derived.BigQuiet
import Derived.Deep.RegionHeld3
import Derived.Deep.AppendLies
import Derived.Deep.Draws
import Derived.Maps.AppendAt
import Derived.StillTailTactics
import Derived.Deep.DeepMust
import Derived.Deep.CutBlock
import Derived.IntWalk
import Derived.Outline
import Derived.ProofKit
import Derived.SliceStrings
import Derived.Deep.Slices
import Derived.Deep.Fields
import Derived.OpenShut
import Derived.Lib.SmallJoins
import Derived.Lib.OwnKind
set_option maxRecDepth 20001
set_option linter.unusedSimpArgs false
set_option linter.unusedVariables false
namespace Go.Proofs.YtimfoimcaapodaaDoor
set_option maxRecDepth 20000
section
open Go.RowKit
theorem zL : (∀ {α : Type} (l : List α) (i : Nat) (h : i < l.toArray.size), l.toArray[i] = l[i]'h) ∧ (∀ {α : Type} (a : α) (l : List α) (h : 0 < (a :: l).length), (a :: l)[0]'h = a) ∧ (∀ {α : Type} (a : α) (l : List α) (i : Nat) (h : i + 1 < (a :: l).length), (a :: l)[i + 1]'h = l[i]'(Nat.lt_of_succ_lt_succ h)) ∧ (∀ {α : Type} (l : List α) (i : Nat) (x : α), l.toArray.setIfInBounds i x = (l.set i x).toArray) ∧ (∀ {α : Type} (x y : α) (l : List α), (x :: l).set 0 y = y :: l) ∧ (∀ {α : Type} (x y : α) (l : List α) (n : Nat), (x :: l).set (n + 1) y = x :: l.set n y) := ⟨fun _ _ _ => List.getElem_toArray _, fun _ _ _ => rfl, fun _ _ _ _ => rfl, fun _ _ _ => List.setIfInBounds_toArray _ _ _, fun _ _ _ => rfl, fun _ _ _ _ => rfl⟩
theorem wdT {P : Program} {Q : Exit → Act → World → Prop} {a : Act} {w : World} {c : Operand} {x y : Code} (h : x.wp P Q a w) (hc : a.eval c = .bool true := by kernel_rfl) : (Code.cond c x y).wp P Q a w := wp_cond_true hc h
theorem wdF {P : Program} {Q : Exit → Act → World → Prop} {a : Act} {w : World} {c : Operand} {x y : Code} (h : y.wp P Q a w) (hc : a.eval c = .bool false := by kernel_rfl) : (Code.cond c x y).wp P Q a w := wp_cond_false hc h
theorem wrd {P : Program} {ops : Array Oper} {Q : Exit → Act → World → Prop} {md : Region.Mode} {S : World → Prop} {fuel : Nat} {listed : Array Bool} {a : Act} {w : World} (i : Nat) {o : Oper} (h : ∀ K' : Act → World → Prop, Shut (∀ a w, S w → (S w → wpAnyH P md ops Q S fuel (listed.setIfInBounds i true) a w) → K' a w) → if Region.wanted o (yielded ops a.tmps) = true then Oper.wp P o a w K' Q else K' (a.put o.dst undef) w) (hr : Region.ready md ops listed = [i] := by kernel_rfl) (ho : ops[i]? = some o := by rfl) : wpAnyH P md ops Q S (fuel + 1) listed a w := wpAnyH_ready hr (by simp) (AllReadyH.cons ho h AllReadyH.nil)
theorem bT {B : Nat} {w z z' : World} (h : Go.RowKit.Below B w z) (t : Go.RowKit.Below z.heap.size z z') (hs : B ≤ z.heap.size) : Go.RowKit.Below B w z' := h.trans (t.mono hs)
theorem bU {w z z' : World} (h : Go.RowKit.Below w.heap.size w z) (t : Go.RowKit.Below z.heap.size z z') : Go.RowKit.Below w.heap.size w z' := h.trans (t.mono h.size)
theorem zQ : (∀ {α : Type} (l : List α) (i : Nat), l.toArray[i]? = l[i]?) ∧ (∀ {α : Type} (a : α) (l : List α), (a :: l)[0]? = some a) ∧ (∀ {α : Type} (a : α) (l : List α) (i : Nat), (a :: l)[i + 1]? = l[i]?) := ⟨fun _ _ => List.getElem?_toArray .., fun _ _ => rfl, fun _ _ _ => List.getElem?_cons_succ⟩
theorem ret_int {k : IntKind} {a b : Int} (h : a = b) : Ending.returned (.int k a) = .returned (.int k b) := by rw [h]
theorem ret_bool {a b : Bool} (h : a = b) : Ending.returned (.bool a) = .returned (.bool b) := by rw [h]
theorem spotNone {w : World} {a : Addr} {v : Value} (h : w.cell? (a.add 0) = some v) : ∃ b off, a = ⟨b, off, none⟩ := by
 obtain ⟨b, off, s⟩ := a;have h1 := World.cell?_spot h;have h2 : s = none := h1;exact ⟨b, off, by rw [h2]⟩
def Rd (w : World) (B : Nat) (A : Option Addr) (xs : List Value) : Prop :=
 ∀ j u, xs[j]? = some u → ∃ b off, A = some ⟨b, off, none⟩ ∧ b < B ∧ w.cell? ⟨b, off + j, none⟩ = some u
section
variable {w w' : World} {B B' : Nat} {A : Option Addr} {xs : List Value}
theorem Rd.nil : Rd w B A [] := fun j u h => by simp at h
theorem Rd.at_ (h : Rd w B A xs) {k : Nat} (hk : k < xs.length) : ∃ b off, A = some ⟨b, off, none⟩ ∧ b < B ∧ w.cell? ⟨b, off + k, none⟩ = some xs[k] :=
 h k _ (List.getElem?_eq_getElem hk)
theorem Rd.keep (h : Rd w B A xs) (hk : ∀ p : Addr, p.block < B → w'.cell? p = w.cell? p) : Rd w' B A xs := fun j u hu => by
 obtain ⟨b, off, hA, hb, hc⟩ := h j u hu;exact ⟨b, off, hA, hb, (hk _ hb).trans hc⟩
theorem Rd.more (h : Rd w B A xs) (hB : B ≤ B') : Rd w B' A xs := fun j u hu => by
 obtain ⟨b, off, hA, hb, hc⟩ := h j u hu;exact ⟨b, off, hA, by omega, hc⟩
theorem Rd.below (h : Rd w B A xs) (hb : Below B w w') : Rd w' B A xs := h.keep fun _ hp => hb.cell hp
theorem Rd.belowM (h : Rd w B A xs) (hb : Below B' w w') (hB : B ≤ B') : Rd w' B A xs := h.keep fun _ hp => (hb.mono hB).cell hp
theorem Rd.drewN (h : Rd w B A xs) (k : Nat) : Rd (w.drewN k) B A xs := h
theorem Rd.drew (h : Rd w B A xs) : Rd w.drew B A xs := h
theorem Rd.alloc (h : Rd w B A xs) (hB : B ≤ w.heap.size) (o : Obj) : Rd (w.alloc o) B A xs := h.keep fun p hp => World.cell?_alloc_lt w o p (by omega)
theorem Rd.setCell (h : Rd w B A xs) {p : Addr} (hB : B ≤ p.block) (u : Value) : Rd (w.setCell p u) B A xs :=
 h.keep fun q hq => World.cell?_setCell_other w p q u (fun e => by subst e; omega)
theorem Rd.grown {row : Option Nat} (h : Rd w B A xs) (hg : w.grownBy w' row) (hB : B ≤ w.heap.size) (hr : ∀ g, row = some g → B ≤ g) : Rd w' B A xs :=
 h.keep fun p hp => World.cell?_of_block (hg.block p.block (by omega) (fun e => by have := hr _ e.symm; omega))
theorem Rd.cut (h : Rd w B A xs) {k cap : Nat} (hc : xs.length ≤ cap) : Rd w B (if cap = k then A else A.map (·.add k)) (xs.drop k) := fun j u hu => by
 rw [List.getElem?_drop] at hu;obtain ⟨b, off, rfl, hb, hcell⟩ := h _ u hu;have hl : k + j < xs.length := (List.getElem?_eq_some_iff.1 hu).1;rw [if_neg (by omega)];refine ⟨b, off + k, ?_, hb, by rw [Nat.add_assoc]; exact hcell⟩;show some ((⟨b, off, none⟩ : Addr).add k) = _;rw [Addr.add_lit]
theorem Rd.take (h : Rd w B A xs) (k : Nat) : Rd w B A (xs.take k) := fun j u hu => by
 rw [List.getElem?_take] at hu
 split at hu
 ·exact h j u hu
 ·cases hu
theorem Rd.ofOwn {base e n c : Nat} (h : w.ownsRow base e 1 (.slice A n c) n xs) : Rd w w.heap.size A xs := fun j u hu => by
 (have hj : j < n := by have := (List.getElem?_eq_some_iff.1 hu).1; have := h.1; omega);rcases h.2 with ⟨_, rfl⟩ | ⟨g, cap, cur, hv, _, hg, _⟩
 ·omega
 ·(have hA : A = some ⟨g, 0, none⟩ := by injection hv);subst hA;have := h.cells (g := g) rfl j u hu;rw [Addr.add_lit] at this;exact ⟨g, 0, rfl, (Array.getElem?_eq_some_iff.1 hg).1, by simpa using this⟩
end
theorem ownShape {w : World} {base e size n : Nat} {v : Value} {xs : List Value} (h : w.ownsRow base e size v n xs) : ∃ A c, v = .slice A n c ∧ n ≤ c ∧ (A = none → n = 0 ∧ c = 0) ∧ c ≤ maxLen := by
 rcases h.2 with ⟨rfl, rfl⟩ | ⟨g, cap, cur, rfl, _, _, hc, hm, _⟩
 ·exact ⟨none, 0, rfl, Nat.le_refl _, fun _ => ⟨rfl, rfl⟩, by unfold maxLen; omega⟩
 ·exact ⟨_, cap, rfl, hc, fun h => by simp at h, hm⟩
theorem ownMore {w : World} {base base' e size n : Nat} {v : Value} {xs : List Value} (h : w.ownsRow base e size v n xs) (hb : base' ≤ base) : w.ownsRow base' e size v n xs := by
 refine ⟨h.1, ?_⟩;rcases h.2 with h2 | ⟨g, cap, cur, hv, hg, r⟩
 ·exact .inl h2
 ·exact .inr ⟨g, cap, cur, hv, by omega, r⟩
theorem belowDrewN {B : Nat} {a w : World} (h : Below B a w) (n : Nat) : Below B a (w.drewN n) := ⟨h.os, h.tape, h.output, h.size, h.block⟩
theorem oneAt (w : World) (v : Value) (e : TypeId) : ∀ j u, ([v] : List Value)[j]? = some u → (w.alloc (.cells #[v] e)).cell? ((⟨w.heap.size, 0, none⟩ : Addr).add j) = some u := by
 intro j u hj
 match j, hj with
 | 0, hj =>
   simp at hj; subst hj;simp [Addr.add]
open Go.ChangeShapes Go.WideShapes Go.ChangeAt
structure Arg (W : World) (t : TypeId) (v : Value) : Prop where
 ok : ∃ base, Value.okWide Tryd.prog W .any base t v
 rd : ∃ (H : Type) (enc : TypeId × Value → H) (d : DataW H) (ps : List MemPlace), DataW.Trod enc Tryd.prog W 0 (fun _ => true) true t v d ps
section
variable {W : World} {t : TypeId} {v : Value}
theorem Arg.int {k : IntKind} (h : Arg W t v) (ht : Tryd.prog.underlying t = some (.int k)) : ∃ a, v = .int k a ∧ (Lit.int k a).wf = true := by
 obtain ⟨⟨base, h1⟩, H, enc, d, ps, h2⟩ := h;obtain ⟨a, rfl, _, _, w⟩ := Go.ChangeShapes.open_int ht h1 h2;exact ⟨a, rfl, w⟩
theorem Arg.u64 (h : Arg W t v) (ht : Tryd.prog.underlying t = some (.int .u64)) : ∃ a : Nat, v = .int .u64 a ∧ a < 18446744073709551616 := by
 obtain ⟨a, rfl, w⟩ := h.int ht;have := bounds_u64 w;exact ⟨a.toNat, by rw [Int.toNat_of_nonneg this.1], by omega⟩
theorem Arg.u8 (h : Arg W t v) (ht : Tryd.prog.underlying t = some (.int .u8)) : ∃ a : Nat, v = .int .u8 a ∧ a < 256 := by
 obtain ⟨a, rfl, w⟩ := h.int ht;have := bounds_u8 w;exact ⟨a.toNat, by rw [Int.toNat_of_nonneg this.1], by omega⟩
theorem Arg.i64 (h : Arg W t v) (ht : Tryd.prog.underlying t = some (.int .i64)) : ∃ a : Int, v = .int .i64 a ∧ -9223372036854775808 ≤ a ∧ a ≤ 9223372036854775807 := by
 obtain ⟨a, rfl, w⟩ := h.int ht;have := bounds_i64 w;exact ⟨a, rfl, by omega, by omega⟩
theorem Arg.bool (h : Arg W t v) (ht : Tryd.prog.underlying t = some .bool) : ∃ a, v = .bool a := by
 obtain ⟨⟨base, h1⟩, _⟩ := h;exact Go.WideShapes.okWide_bool ht h1
theorem Arg.string (h : Arg W t v) (ht : Tryd.prog.underlying t = some .string) : ∃ s : ByteArray, v = .string s ∧ s.size ≤ maxLen := by
 obtain ⟨⟨base, h1⟩, H, enc, d, ps, h2⟩ := h;obtain ⟨s, rfl, _, _, w⟩ := Go.ChangeMaps.open_string ht h1 h2;exact ⟨s, rfl, w⟩
theorem Arg.ints {e : TypeId} {k : IntKind} (h : Arg W t v) (ht : Tryd.prog.underlying t = some (.slice e)) (he : Tryd.prog.underlying e = some (.int k)) (hc : Tryd.prog.cellsOf e = 1) :
 ∃ (A : Option Addr) (n c : Nat) (zs : List Int), v = .slice A n c ∧ n ≤ c ∧ c ≤ maxLen ∧ (A = none → n = 0 ∧ c = 0) ∧ zs.length = n ∧ Rd W W.heap.size A (zs.map (Value.int k)) ∧ ∀ z ∈ zs, (Lit.int k z).wf = true := by
 obtain ⟨⟨base, h1⟩, H, enc, d, ps, h2⟩ := h;obtain ⟨A, n, c, rfl⟩ := Go.WideShapes.okWide_slice ht h1;obtain ⟨fuel, hf⟩ := h2;rcases open_ints ht he hc hf with ⟨hcs, _⟩ | ⟨x, l, cap, zs, hcs, _, hl, hm, hz, _, hcell, hwz⟩
 ·simp [Value.cells] at hcs;obtain ⟨rfl, rfl, rfl⟩ := hcs;exact ⟨none, 0, 0, [], rfl, by omega, by simp [maxLen], fun _ => ⟨rfl, rfl⟩, rfl, Rd.nil, by simp⟩
 ·simp [Value.cells] at hcs;obtain ⟨rfl, rfl, rfl⟩ := hcs;(have hz' : zs.length = c := by simpa using hz);refine ⟨_, n, c, zs.take n, rfl, hl, hm, by simp, by simp; omega, ?_, fun z hz => hwz z (List.mem_of_mem_take hz)⟩;intro j u hu;(have hj : j < n := by have := (List.getElem?_eq_some_iff.1 hu).1; simp at this; omega);have h0 := hcell 0 (by omega);obtain ⟨b, off, rfl⟩ := spotNone h0;have hj' := hcell j (by omega);rw [Addr.add_lit] at hj';refine ⟨b, off, rfl, World.block_lt_of_cell? W _ hj', ?_⟩;rw [hj'];rw [List.getElem?_map, List.getElem?_take, if_pos hj] at hu
  have : zs[j]? = some (zs.getD j 0) := by
   rw [List.getD_eq_getElem?_getD, List.getElem?_eq_getElem (show j < zs.length by omega)]; rfl
  rw [this] at hu
  simpa using hu
end
theorem cellB {W W' : World} {p : Addr} {v : Value} (hb : Below W.heap.size W W') (h : W.cell? p = some v) : W'.cell? p = some v := (hb.cell (World.block_lt_of_cell? W _ h)).trans h
end
section
section
variable {α : Type}
theorem nP (t : Array Value) (df : List Deferred) (d : Tmp) (v : Value) : Act.put ⟨t, df⟩ (some d) v = ⟨t.setIfInBounds d v, df⟩ := rfl
theorem nN (a : Act) (v : Value) : Act.put a none v = a := rfl
theorem nA (l : List α) (i : Nat) (x : α) : l.toArray.setIfInBounds i x = (l.set i x).toArray := List.setIfInBounds_toArray ..
theorem n0 (x y : α) (l : List α) : (x :: l).set 0 y = y :: l := rfl
theorem nS (x y : α) (l : List α) (n : Nat) : (x :: l).set (n + 1) y = x :: l.set n y := rfl
end
theorem zP : (∀ (t : Array Value) (df : List Deferred) (d : Tmp) (v : Value), Act.put ⟨t, df⟩ (some d) v = ⟨t.setIfInBounds d v, df⟩) ∧ (∀ (a : Act) (v : Value), Act.put a none v = a) ∧ (∀ (l : List Value) (i : Nat) (x : Value), l.toArray.setIfInBounds i x = (l.set i x).toArray) ∧ (∀ (x y : Value) (l : List Value), (x :: l).set 0 y = y :: l) ∧ (∀ (x y : Value) (l : List Value) (n : Nat), (x :: l).set (n + 1) y = x :: l.set n y) := ⟨nP, nN, nA, n0, nS⟩
theorem zT {P : Program} {ops : Array Oper} {Q : Exit → Act → World → Prop} {md : Region.Mode} {S : World → Prop} {oi : Oper} {fuel : Nat} {listed : Array Bool} {a : Act} {w : World} (i : Nat) (v : Value) (hi : ops[i]? = some oi) (hy : YieldsIf P ops S oi v a) (hS : S w) (h : wpAnyH P md ops Q S fuel (listed.setIfInBounds i true) (a.put oi.dst v) w) (hs : Region.noSelect ops = true := by kernel_rfl) (hf : Region.free md ops listed i = true := by kernel_rfl) (hr : (Region.ready md ops listed).contains i = true := by kernel_rfl) (hQ : ∀ c a w, Q (.panic c) (a.put oi.dst v) w → Q (.panic c) a w := by exact fun _ _ _ h => h) : wpAnyH P md ops Q S (fuel + 1) listed a w := wpAnyH_take hi hs hf hr hQ hy hS h
theorem zU {P : Program} {ops : Array Oper} {Q : Exit → Act → World → Prop} {md : Region.Mode} {S : World → Prop} {oi : Oper} {fuel : Nat} {listed : Array Bool} {a : Act} {w : World} (i : Nat) (v : Value) (hi : ops[i]? = some oi) (hS : S w) (h : wpAnyH P md ops Q S fuel (listed.setIfInBounds i true) (a.put oi.dst v) w) (hs : Region.noSelect ops = true := by kernel_rfl) (hf : Region.free md ops listed i = true := by kernel_rfl) (hr : (Region.ready md ops listed).contains i = true := by kernel_rfl) (hQ : ∀ c a w, Q (.panic c) (a.put oi.dst v) w → Q (.panic c) a w := by exact fun _ _ _ h => h) (hy : YieldsIf P ops S oi v a := by exact Or.inl ⟨by rfl, fun w_ hS_ => by (first | (go_simp; done) | (go_simp; rfl))⟩) : wpAnyH P md ops Q S (fuel + 1) listed a w := wpAnyH_take hi hs hf hr hQ hy hS h
end
section
open Go.RowKit Go.ChangeShapes Go.WideShapes Go.ChangeAt Go.Deep
def Cel (W : World) (t : TypeId) (cs : List Value) : Prop :=
 ∃ (H : Type) (enc : TypeId × Value → H) (fuel : Nat) (x : DataW H × List MemPlace), DataW.trod enc Tryd.prog W 0 (fun _ => true) true fuel t cs = some x
section
variable {W : World} {t : TypeId} {v : Value} {cs : List Value}
theorem Arg.struct {fs : Array Field} (h : Arg W t v) (ht : Tryd.prog.underlying t = some (.struct fs)) : ∃ cs : Array Value, v = .agg cs ∧ Cel W t cs.toList := by
 obtain ⟨⟨base, h1⟩, H, enc, d, ps, fuel, h2⟩ := h;obtain ⟨cs, rfl, _⟩ := okWide_struct ht h1;exact ⟨cs, rfl, H, enc, fuel, _, h2⟩
theorem Arg.array {n : Nat} {e : TypeId} (h : Arg W t v) (ht : Tryd.prog.underlying t = some (.array n e)) : ∃ cs : Array Value, v = .agg cs ∧ Cel W t cs.toList := by
 obtain ⟨⟨base, h1⟩, H, enc, d, ps, fuel, h2⟩ := h;simp only [Value.okWide, ht] at h1;obtain ⟨cs, rfl, _⟩ := h1;exact ⟨cs, rfl, H, enc, fuel, _, h2⟩
theorem Arg.slice {e : TypeId} (h : Arg W t v) (ht : Tryd.prog.underlying t = some (.slice e)) : ∃ (A : Option Addr) (n c : Nat), v = .slice A n c ∧ Cel W t [.slice A n c] := by
 obtain ⟨⟨base, h1⟩, H, enc, d, ps, fuel, h2⟩ := h;obtain ⟨A, n, c, rfl⟩ := okWide_slice ht h1;exact ⟨A, n, c, rfl, H, enc, fuel, _, h2⟩
theorem Cel.int {k : IntKind} (h : Cel W t cs) (ht : Tryd.prog.underlying t = some (.int k)) : ∃ a, cs = [.int k a] ∧ (Lit.int k a).wf = true := by
 obtain ⟨H, enc, fuel, x, h⟩ := h;obtain ⟨a, h1, _, h2⟩ := DataW.trod_int ht h;exact ⟨a, h1, h2⟩
theorem Cel.u64 (h : Cel W t cs) (ht : Tryd.prog.underlying t = some (.int .u64)) : ∃ a : Nat, cs = [.int .u64 (a : Int)] ∧ a < 18446744073709551616 := by
 obtain ⟨a, rfl, w⟩ := h.int ht;have := bounds_u64 w;exact ⟨a.toNat, by rw [Int.toNat_of_nonneg this.1], by omega⟩
theorem Cel.u8 (h : Cel W t cs) (ht : Tryd.prog.underlying t = some (.int .u8)) : ∃ a : Nat, cs = [.int .u8 (a : Int)] ∧ a < 256 := by
 obtain ⟨a, rfl, w⟩ := h.int ht;have := bounds_u8 w;exact ⟨a.toNat, by rw [Int.toNat_of_nonneg this.1], by omega⟩
theorem Cel.i64 (h : Cel W t cs) (ht : Tryd.prog.underlying t = some (.int .i64)) : ∃ a : Int, cs = [.int .i64 a] ∧ -9223372036854775808 ≤ a ∧ a ≤ 9223372036854775807 := by
 obtain ⟨a, rfl, w⟩ := h.int ht;have := bounds_i64 w;exact ⟨a, rfl, by omega, by omega⟩
theorem Cel.bool (h : Cel W t cs) (ht : Tryd.prog.underlying t = some .bool) : ∃ b, cs = [.bool b] := by
 obtain ⟨H, enc, fuel, x, h⟩ := h;obtain ⟨a, h1, _⟩ := DataW.trod_bool ht h;exact ⟨a, h1⟩
theorem Cel.string (h : Cel W t cs) (ht : Tryd.prog.underlying t = some .string) : ∃ s : ByteArray, cs = [.string s] ∧ s.size ≤ 9223372036854775807 := by
 obtain ⟨H, enc, fuel, x, h⟩ := h;obtain ⟨a, h1, _, h2⟩ := DataW.trod_string ht h;exact ⟨a, h1, by unfold maxLen at h2; omega⟩
theorem Cel.len {fs : Array Field} (h : Cel W t cs) (ht : Tryd.prog.underlying t = some (.struct fs)) : cs.length = Tryd.prog.cellsOf t := by
 obtain ⟨H, enc, fuel, x, h⟩ := h;obtain ⟨_, _, _, _, h1, _⟩ := DataW.trod_struct ht h;exact h1
theorem Cel.field {fs : Array Field} (h : Cel W t cs) (ht : Tryd.prog.underlying t = some (.struct fs)) (j : Nat) (f : Field) (hj : fs[j]? = some f) : Cel W f.type ((cs.drop f.offset).take (Tryd.prog.cellsOf f.type)) := by
 obtain ⟨H, enc, fuel, x, h⟩ := h;obtain ⟨xs, n, _, _, _, hl, hf⟩ := DataW.trod_struct ht h;(have hjl : j < xs.length := by rw [hl]; exact (Array.getElem?_eq_some_iff.1 hj).1);have h1 := hf j f hj;rw [List.getElem?_eq_getElem hjl] at h1;exact ⟨H, enc, n, _, h1⟩
theorem Cel.field1 {fs : Array Field} (h : Cel W t cs) (ht : Tryd.prog.underlying t = some (.struct fs)) (j o : Nat) (ft : TypeId) (f : Field) (hj : fs[j]? = some f) (ho : f.offset = o) (hty : f.type = ft) (hk : Tryd.prog.cellsOf ft = 1) (v : Value) (hv : cs[o]? = some v) : Cel W ft [v] := by
 subst ho; subst hty;have h1 := h.field ht j f hj;rw [hk] at h1;have hl := (List.getElem?_eq_some_iff.1 hv).1;rw [List.drop_eq_getElem_cons hl] at h1;have e : cs[f.offset] = v := (List.getElem?_eq_some_iff.1 hv).2;rw [e] at h1;exact h1
theorem Cel.elem {n : Nat} {e : TypeId} (h : Cel W t cs) (ht : Tryd.prog.underlying t = some (.array n e)) (i : Nat) (hi : i < n) : Cel W e ((cs.drop (i * Tryd.prog.cellsOf e)).take (Tryd.prog.cellsOf e)) := by
 obtain ⟨H, enc, fuel, x, h⟩ := h;obtain ⟨xs, m, _, _, _, hl, hf⟩ := DataW.trod_array ht h;have h1 := hf i hi;rw [List.getElem?_eq_getElem (show i < xs.length by omega)] at h1;exact ⟨H, enc, m, _, h1⟩
theorem Cel.slice {e : TypeId} {A : Option Addr} {n c : Nat} (h : Cel W t [.slice A n c]) (ht : Tryd.prog.underlying t = some (.slice e)) :
 (A = none ∧ n = 0 ∧ c = 0) ∨ (n ≤ c ∧ c ≤ maxLen ∧ ∃ a, A = some a ∧ ∀ i, i < n → ∃ cs' : List Value, cs'.length = Tryd.prog.cellsOf e ∧ Cel W e cs' ∧ ∀ j, j < Tryd.prog.cellsOf e → W.cell? ((a.add (i * Tryd.prog.cellsOf e)).add j) = cs'[j]?) := by
 obtain ⟨H, enc, fuel, x, h⟩ := h;rcases open_slice ht h with ⟨h1, _⟩ | ⟨a, len, cap, m, k, D, Pl, h1, _, hl, hm, hmm, _, hi⟩
 ·simp at h1;exact Or.inl h1
 ·simp at h1;obtain ⟨rfl, rfl, rfl⟩ := h1;refine Or.inr ⟨hl, hm, a, rfl, fun i hi' => ?_⟩;obtain ⟨cs', hc, ht'⟩ := hi i (by simp at hmm; omega);obtain ⟨_, hcl, hat⟩ := World.cells?_some hc;exact ⟨cs', hcl, ⟨H, enc, k, _, ht'⟩, hat⟩
theorem Cel.sliceAt {e : TypeId} {A : Option Addr} {n c : Nat} (h : Cel W t [.slice A n c]) (ht : Tryd.prog.underlying t = some (.slice e)) (sz : Nat) (hsz : Tryd.prog.cellsOf e = sz) (hpos : 0 < sz) :
 n ≤ c ∧ c ≤ maxLen ∧ (A = none → n = 0 ∧ c = 0) ∧ (0 < n → ∃ b off, A = some ⟨b, off, none⟩ ∧ b < W.heap.size ∧ ∀ i, i < n → ∃ cs' : List Value, cs'.length = sz ∧ Cel W e cs' ∧ ∀ j, j < sz → W.cell? ⟨b, off + i * sz + j, none⟩ = cs'[j]?) := by
 subst hsz;rcases h.slice ht with ⟨rfl, rfl, rfl⟩ | ⟨hn, hc, a, rfl, hi⟩
 ·exact ⟨Nat.le_refl _, by simp [maxLen], fun _ => ⟨rfl, rfl⟩, fun h => absurd h (by omega)⟩
 ·refine ⟨hn, hc, fun h => by simp at h, fun h0 => ?_⟩;obtain ⟨cs0, hl0, _, hat0⟩ := hi 0 h0;have h00 := hat0 0 hpos;rw [List.getElem?_eq_getElem (by omega)] at h00;(have e0 : (a.add (0 * Tryd.prog.cellsOf e)) = a := by simp [Addr.add]);rw [e0] at h00;obtain ⟨b, off, rfl⟩ := spotNone h00;refine ⟨b, off, rfl, ?_, fun i hi' => ?_⟩
  ·rw [Addr.add_lit] at h00;exact World.block_lt_of_cell? W _ h00
  ·obtain ⟨cs', hl, hc', hat⟩ := hi i hi';refine ⟨cs', hl, hc', fun j hj => ?_⟩;have := hat j hj;rw [Addr.add_lit, Addr.add_lit] at this;exact this
end
end
end Go.Proofs.YtimfoimcaapodaaDoor
