import Derived.Test.YthclniimhpmeoaaGreatDoorRows
import Derived.WalkKit
import Derived.WalkSpells
import Derived.WalkLawsBesides
import Derived.Lib.Hide
import Derived.Deep.DeepCutAuto
import Derived.Deep.DeepFit
import Derived.Deep.QuietTactic
import Derived.BigQuiet
import Derived.Deep.RegionHeld3
import Derived.Deep.AppendLies
import Derived.Deep.Draws
import Derived.Maps.AppendAt
import Derived.StillTailTactics
import Derived.Deep.DeepMust
import Derived.Deep.CutBlock
import Derived.IntWalk
import Derived.Outline
import Derived.ProofKit
import Derived.SliceStrings
import Derived.Deep.Slices
import Derived.Deep.Fields
import Derived.OpenShut
import Derived.Lib.SmallJoins
import Derived.Lib.OwnKind
import Derived.Lib.AppendStr
import Derived.Laws.BytesArg
import Derived.Laws.AppendOwnNone
import Derived.Laws.BitsAllLaws
import GoSem.Op.String
set_option maxHeartbeats 800000
set_option maxRecDepth 20001
set_option linter.unusedSimpArgs false
set_option linter.unusedVariables false
namespace Go.Proofs.YthclniimhpmeoaaGreatDoor
set_option maxRecDepth 20000
open Go.RowKit
theorem zL : (∀ {α : Type} (l : List α) (i : Nat) (h : i < l.toArray.size), l.toArray[i] = l[i]'h) ∧ (∀ {α : Type} (a : α) (l : List α) (h : 0 < (a :: l).length), (a :: l)[0]'h = a) ∧ (∀ {α : Type} (a : α) (l : List α) (i : Nat) (h : i + 1 < (a :: l).length), (a :: l)[i + 1]'h = l[i]'(Nat.lt_of_succ_lt_succ h)) ∧ (∀ {α : Type} (l : List α) (i : Nat) (x : α), l.toArray.setIfInBounds i x = (l.set i x).toArray) ∧ (∀ {α : Type} (x y : α) (l : List α), (x :: l).set 0 y = y :: l) ∧ (∀ {α : Type} (x y : α) (l : List α) (n : Nat), (x :: l).set (n + 1) y = x :: l.set n y) := ⟨fun _ _ _ => List.getElem_toArray _, fun _ _ _ => rfl, fun _ _ _ _ => rfl, fun _ _ _ => List.setIfInBounds_toArray _ _ _, fun _ _ _ => rfl, fun _ _ _ _ => rfl⟩
theorem wdT {P : Program} {Q : Exit → Act → World → Prop} {a : Act} {w : World} {c : Operand} {x y : Code} (h : x.wp P Q a w) (hc : a.eval c = .bool true := by kernel_rfl) : (Code.cond c x y).wp P Q a w := wp_cond_true hc h
theorem wdF {P : Program} {Q : Exit → Act → World → Prop} {a : Act} {w : World} {c : Operand} {x y : Code} (h : y.wp P Q a w) (hc : a.eval c = .bool false := by kernel_rfl) : (Code.cond c x y).wp P Q a w := wp_cond_false hc h
theorem wrd {P : Program} {ops : Array Oper} {Q : Exit → Act → World → Prop} {md : Region.Mode} {S : World → Prop} {fuel : Nat} {listed : Array Bool} {a : Act} {w : World} (i : Nat) {o : Oper} (h : ∀ K' : Act → World → Prop, Shut (∀ a w, S w → (S w → wpAnyH P md ops Q S fuel (listed.setIfInBounds i true) a w) → K' a w) → if Region.wanted o (yielded ops a.tmps) = true then Oper.wp P o a w K' Q else K' (a.put o.dst undef) w) (hr : Region.ready md ops listed = [i] := by kernel_rfl) (ho : ops[i]? = some o := by rfl) : wpAnyH P md ops Q S (fuel + 1) listed a w := wpAnyH_ready hr (by simp) (AllReadyH.cons ho h AllReadyH.nil)
theorem bT {B : Nat} {w z z' : World} (h : Go.RowKit.Below B w z) (t : Go.RowKit.Below z.heap.size z z') (hs : B ≤ z.heap.size) : Go.RowKit.Below B w z' := h.trans (t.mono hs)
theorem bU {w z z' : World} (h : Go.RowKit.Below w.heap.size w z) (t : Go.RowKit.Below z.heap.size z z') : Go.RowKit.Below w.heap.size w z' := h.trans (t.mono h.size)
theorem zQ : (∀ {α : Type} (l : List α) (i : Nat), l.toArray[i]? = l[i]?) ∧ (∀ {α : Type} (a : α) (l : List α), (a :: l)[0]? = some a) ∧ (∀ {α : Type} (a : α) (l : List α) (i : Nat), (a :: l)[i + 1]? = l[i]?) := ⟨fun _ _ => List.getElem?_toArray .., fun _ _ => rfl, fun _ _ _ => List.getElem?_cons_succ⟩
theorem ret_int {k : IntKind} {a b : Int} (h : a = b) : Ending.returned (.int k a) = .returned (.int k b) := by rw [h]
theorem ret_bool {a b : Bool} (h : a = b) : Ending.returned (.bool a) = .returned (.bool b) := by rw [h]
theorem ret_of {a b : Value} (h : a = b) : Ending.returned a = .returned b := by rw [h]
theorem int_of {k : IntKind} {a b : Int} (h : a = b) : Value.int k a = Value.int k b := by rw [h]
theorem hide_ {p : Prop} (h : p) : Hid p := h
theorem spotNone {w : World} {a : Addr} {v : Value} (h : w.cell? (a.add 0) = some v) : ∃ b off, a = ⟨b, off, none⟩ := by
 obtain ⟨b, off, s⟩ := a;have h1 := World.cell?_spot h;have h2 : s = none := h1;exact ⟨b, off, by rw [h2]⟩
def Rd (w : World) (B : Nat) (A : Option Addr) (xs : List Value) : Prop :=
 ∀ j u, xs[j]? = some u → ∃ b off, A = some ⟨b, off, none⟩ ∧ b < B ∧ w.cell? ⟨b, off + j, none⟩ = some u
section
variable {w w' : World} {B B' : Nat} {A : Option Addr} {xs : List Value}
theorem Rd.nil : Rd w B A [] := fun j u h => by simp at h
theorem Rd.at_ (h : Rd w B A xs) {k : Nat} (hk : k < xs.length) : ∃ b off, A = some ⟨b, off, none⟩ ∧ b < B ∧ w.cell? ⟨b, off + k, none⟩ = some xs[k] :=
 h k _ (List.getElem?_eq_getElem hk)
theorem Rd.keep (h : Rd w B A xs) (hk : ∀ p : Addr, p.block < B → w'.cell? p = w.cell? p) : Rd w' B A xs := fun j u hu => by
 obtain ⟨b, off, hA, hb, hc⟩ := h j u hu;exact ⟨b, off, hA, hb, (hk _ hb).trans hc⟩
theorem Rd.more (h : Rd w B A xs) (hB : B ≤ B') : Rd w B' A xs := fun j u hu => by
 obtain ⟨b, off, hA, hb, hc⟩ := h j u hu;exact ⟨b, off, hA, by omega, hc⟩
theorem Rd.below (h : Rd w B A xs) (hb : Below B w w') : Rd w' B A xs := h.keep fun _ hp => hb.cell hp
theorem Rd.belowM (h : Rd w B A xs) (hb : Below B' w w') (hB : B ≤ B') : Rd w' B A xs := h.keep fun _ hp => (hb.mono hB).cell hp
theorem Rd.drewN (h : Rd w B A xs) (k : Nat) : Rd (w.drewN k) B A xs := h
theorem Rd.drew (h : Rd w B A xs) : Rd w.drew B A xs := h
theorem Rd.alloc (h : Rd w B A xs) (hB : B ≤ w.heap.size) (o : Obj) : Rd (w.alloc o) B A xs := h.keep fun p hp => World.cell?_alloc_lt w o p (by omega)
theorem Rd.setCell (h : Rd w B A xs) {p : Addr} (hB : B ≤ p.block) (u : Value) : Rd (w.setCell p u) B A xs :=
 h.keep fun q hq => World.cell?_setCell_other w p q u (fun e => by subst e; omega)
theorem Rd.grown {row : Option Nat} (h : Rd w B A xs) (hg : w.grownBy w' row) (hB : B ≤ w.heap.size) (hr : ∀ g, row = some g → B ≤ g) : Rd w' B A xs :=
 h.keep fun p hp => World.cell?_of_block (hg.block p.block (by omega) (fun e => by have := hr _ e.symm; omega))
theorem Rd.cut (h : Rd w B A xs) {k cap : Nat} (hc : xs.length ≤ cap) : Rd w B (if cap = k then A else A.map (·.add k)) (xs.drop k) := fun j u hu => by
 rw [List.getElem?_drop] at hu;obtain ⟨b, off, rfl, hb, hcell⟩ := h _ u hu;have hl : k + j < xs.length := (List.getElem?_eq_some_iff.1 hu).1;rw [if_neg (by omega)];refine ⟨b, off + k, ?_, hb, by rw [Nat.add_assoc]; exact hcell⟩;show some ((⟨b, off, none⟩ : Addr).add k) = _;rw [Addr.add_lit]
theorem Rd.take (h : Rd w B A xs) (k : Nat) : Rd w B A (xs.take k) := fun j u hu => by
 rw [List.getElem?_take] at hu
 split at hu
 ·exact h j u hu
 ·cases hu
theorem Rd.ofOwn {base e n c : Nat} (h : w.ownsRow base e 1 (.slice A n c) n xs) : Rd w w.heap.size A xs := fun j u hu => by
 (have hj : j < n := by have := (List.getElem?_eq_some_iff.1 hu).1; have := h.1; omega);rcases h.2 with ⟨_, rfl⟩ | ⟨g, cap, cur, hv, _, hg, _⟩
 ·omega
 ·(have hA : A = some ⟨g, 0, none⟩ := by injection hv);subst hA;have := h.cells (g := g) rfl j u hu;rw [Addr.add_lit] at this;exact ⟨g, 0, rfl, (Array.getElem?_eq_some_iff.1 hg).1, by simpa using this⟩
end
theorem ownShape {w : World} {base e size n : Nat} {v : Value} {xs : List Value} (h : w.ownsRow base e size v n xs) : ∃ A c, v = .slice A n c ∧ n ≤ c ∧ (A = none → n = 0 ∧ c = 0) ∧ c ≤ maxLen := by
 rcases h.2 with ⟨rfl, rfl⟩ | ⟨g, cap, cur, rfl, _, _, hc, hm, _⟩
 ·exact ⟨none, 0, rfl, Nat.le_refl _, fun _ => ⟨rfl, rfl⟩, by unfold maxLen; omega⟩
 ·exact ⟨_, cap, rfl, hc, fun h => by simp at h, hm⟩
theorem ownMore {w : World} {base base' e size n : Nat} {v : Value} {xs : List Value} (h : w.ownsRow base e size v n xs) (hb : base' ≤ base) : w.ownsRow base' e size v n xs := by
 refine ⟨h.1, ?_⟩;rcases h.2 with h2 | ⟨g, cap, cur, hv, hg, r⟩
 ·exact .inl h2
 ·exact .inr ⟨g, cap, cur, hv, by omega, r⟩
theorem belowDrewN {B : Nat} {a w : World} (h : Below B a w) (n : Nat) : Below B a (w.drewN n) := ⟨h.os, h.tape, h.output, h.size, h.block⟩
theorem oneAt (w : World) (v : Value) (e : TypeId) : ∀ j u, ([v] : List Value)[j]? = some u → (w.alloc (.cells #[v] e)).cell? ((⟨w.heap.size, 0, none⟩ : Addr).add j) = some u := by
 intro j u hj
 match j, hj with
 | 0, hj =>
   simp at hj; subst hj;simp [Addr.add]
open Go.ChangeShapes Go.WideShapes Go.ChangeAt
structure Arg (W : World) (t : TypeId) (v : Value) : Prop where
 ok : ∃ base, Value.okWide Tryz.prog W .any base t v
 rd : ∃ (H : Type) (enc : TypeId × Value → H) (d : DataW H) (ps : List MemPlace), DataW.Trod enc Tryz.prog W 0 (fun _ => true) true t v d ps
section
variable {W : World} {t : TypeId} {v : Value}
theorem Arg.int {k : IntKind} (h : Arg W t v) (ht : Tryz.prog.underlying t = some (.int k)) : ∃ a, v = .int k a ∧ (Lit.int k a).wf = true := by
 obtain ⟨⟨base, h1⟩, H, enc, d, ps, h2⟩ := h;obtain ⟨a, rfl, _, _, w⟩ := Go.ChangeShapes.open_int ht h1 h2;exact ⟨a, rfl, w⟩
theorem Arg.u64 (h : Arg W t v) (ht : Tryz.prog.underlying t = some (.int .u64)) : ∃ a : Nat, v = .int .u64 a ∧ a < 18446744073709551616 := by
 obtain ⟨a, rfl, w⟩ := h.int ht;have := bounds_u64 w;exact ⟨a.toNat, by rw [Int.toNat_of_nonneg this.1], by omega⟩
theorem Arg.u32 (h : Arg W t v) (ht : Tryz.prog.underlying t = some (.int .u32)) : ∃ a : Nat, v = .int .u32 a ∧ a < 4294967296 := by
 obtain ⟨a, rfl, w⟩ := h.int ht;have := bounds_u32 w;exact ⟨a.toNat, by rw [Int.toNat_of_nonneg this.1], by omega⟩
theorem Arg.u8 (h : Arg W t v) (ht : Tryz.prog.underlying t = some (.int .u8)) : ∃ a : Nat, v = .int .u8 a ∧ a < 256 := by
 obtain ⟨a, rfl, w⟩ := h.int ht;have := bounds_u8 w;exact ⟨a.toNat, by rw [Int.toNat_of_nonneg this.1], by omega⟩
theorem Arg.i64 (h : Arg W t v) (ht : Tryz.prog.underlying t = some (.int .i64)) : ∃ a : Int, v = .int .i64 a ∧ -9223372036854775808 ≤ a ∧ a ≤ 9223372036854775807 := by
 obtain ⟨a, rfl, w⟩ := h.int ht;have := bounds_i64 w;exact ⟨a, rfl, by omega, by omega⟩
theorem Arg.bool (h : Arg W t v) (ht : Tryz.prog.underlying t = some .bool) : ∃ a, v = .bool a := by
 obtain ⟨⟨base, h1⟩, _⟩ := h;exact Go.WideShapes.okWide_bool ht h1
theorem Arg.string (h : Arg W t v) (ht : Tryz.prog.underlying t = some .string) : ∃ s : ByteArray, v = .string s ∧ s.size ≤ maxLen := by
 obtain ⟨⟨base, h1⟩, H, enc, d, ps, h2⟩ := h;obtain ⟨s, rfl, _, _, w⟩ := Go.ChangeMaps.open_string ht h1 h2;exact ⟨s, rfl, w⟩
theorem Arg.ints {e : TypeId} {k : IntKind} (h : Arg W t v) (ht : Tryz.prog.underlying t = some (.slice e)) (he : Tryz.prog.underlying e = some (.int k)) (hc : Tryz.prog.cellsOf e = 1) :
 ∃ (A : Option Addr) (n c : Nat) (zs : List Int), v = .slice A n c ∧ n ≤ c ∧ c ≤ maxLen ∧ (A = none → n = 0 ∧ c = 0) ∧ zs.length = n ∧ Rd W W.heap.size A (zs.map (Value.int k)) ∧ ∀ z ∈ zs, (Lit.int k z).wf = true := by
 obtain ⟨⟨base, h1⟩, H, enc, d, ps, h2⟩ := h;obtain ⟨A, n, c, rfl⟩ := Go.WideShapes.okWide_slice ht h1;obtain ⟨fuel, hf⟩ := h2;rcases open_ints ht he hc hf with ⟨hcs, _⟩ | ⟨x, l, cap, zs, hcs, _, hl, hm, hz, _, hcell, hwz⟩
 ·simp [Value.cells] at hcs;obtain ⟨rfl, rfl, rfl⟩ := hcs;exact ⟨none, 0, 0, [], rfl, by omega, by simp [maxLen], fun _ => ⟨rfl, rfl⟩, rfl, Rd.nil, by simp⟩
 ·simp [Value.cells] at hcs;obtain ⟨rfl, rfl, rfl⟩ := hcs;(have hz' : zs.length = c := by simpa using hz);refine ⟨_, n, c, zs.take n, rfl, hl, hm, by simp, by simp; omega, ?_, fun z hz => hwz z (List.mem_of_mem_take hz)⟩;intro j u hu;(have hj : j < n := by have := (List.getElem?_eq_some_iff.1 hu).1; simp at this; omega);have h0 := hcell 0 (by omega);obtain ⟨b, off, rfl⟩ := spotNone h0;have hj' := hcell j (by omega);rw [Addr.add_lit] at hj';refine ⟨b, off, rfl, World.block_lt_of_cell? W _ hj', ?_⟩;rw [hj'];rw [List.getElem?_map, List.getElem?_take, if_pos hj] at hu
  have : zs[j]? = some (zs.getD j 0) := by
   rw [List.getD_eq_getElem?_getD, List.getElem?_eq_getElem (show j < zs.length by omega)]; rfl
  rw [this] at hu
  simpa using hu
end
theorem cellB {W W' : World} {p : Addr} {v : Value} (hb : Below W.heap.size W W') (h : W.cell? p = some v) : W'.cell? p = some v := (hb.cell (World.block_lt_of_cell? W _ h)).trans h
theorem cellA {W : World} {p : Addr} {v : Value} (o : Obj) (h : W.cell? p = some v) : (W.alloc o).cell? p = some v := (World.cell?_alloc_lt W o p (World.block_lt_of_cell? W _ h)).trans h
theorem own_ne {w : World} {B e s n B' e' s' n' : Nat} {u v : Value} {xs ys : List Value} (hu : w.ownsRow B e s u n xs) (hv : w.ownsRow B' e' s' v n' ys) (hne : e' ≠ e) : v.ownBlock = none ∨ v.ownBlock ≠ u.ownBlock := by
 cases hb : v.ownBlock with
 | none => exact Or.inl rfl
 | some g =>
   refine Or.inr fun h => ?_;obtain ⟨c1, f1, h1⟩ := Lib.ownsRow_kind hv g hb;obtain ⟨c2, f2, h2⟩ := Lib.ownsRow_kind hu g (h ▸ rfl);rw [h1] at h2;injection h2 with h2;injection h2 with _ h3;exact hne h3
end Go.Proofs.YthclniimhpmeoaaGreatDoor
namespace Go.Proofs.YthclniimhpmeoaaGreatDoor
open Go.RowKit
theorem info_u8 : (Tryz.prog.info? 5).map (fun i => (i.zero, i.size, i.bytes)) = some (some (.int .u8 0), 1, 1) := by kernel_rfl
def bc (l : List UInt8) : List Value := l.map fun (b : UInt8) => Value.int .u8 (b.toNat : Int)
theorem bc_len (l : List UInt8) : (bc l).length = l.length := by simp [bc]
theorem bc_app (l m : List UInt8) : bc (l ++ m) = bc l ++ bc m := by simp [bc]
theorem bc_drop (l : List UInt8) (k : Nat) : (bc l).drop k = bc (l.drop k) := by simp [bc]
theorem bc_take (l : List UInt8) (k : Nat) : (bc l).take k = bc (l.take k) := by simp [bc]
theorem bc_one (l : List UInt8) : ∀ u ∈ bc l, u.oneCell' = true := by
 intro u hu;obtain ⟨b, _, rfl⟩ := List.mem_map.1 hu;rfl
theorem bc_get (l : List UInt8) (k : Nat) (h : k < (bc l).length) : (bc l)[k] = .int .u8 ((l[k]'(by simpa [bc] using h)).toNat : Int) := by simp [bc]
theorem bc_str (s : ByteArray) : Lib.strCells s = bc s.data.toList := rfl
theorem Arg.bytes {W : World} {t : TypeId} {v : Value} (h : Arg W t v) (ht : Tryz.prog.underlying t = some (.slice 5)) :
 ∃ (A : Option Addr) (c : Nat) (l : List UInt8), v = .slice A l.length c ∧ l.length ≤ c ∧ c ≤ maxLen ∧ (A = none → l = [] ∧ c = 0) ∧ Rd W W.heap.size A (bc l) := by
 obtain ⟨A, n, c, zs, rfl, hn, hc, hA, hz, hr, hw⟩ := h.ints (k := .u8) ht Tryz.underlying5 (by kernel_rfl)
 have e : zs.map (Value.int .u8) = bc (zs.map fun z => UInt8.ofNat z.toNat) := by
  simp only [bc, List.map_map];refine List.map_congr_left fun z hz => ?_;have := bounds_u8 (hw z hz);simp only [Function.comp]
  have e2 : ((UInt8.ofNat z.toNat).toNat : Int) = z := by
   rw [UInt8.toNat_ofNat']; omega
  rw [e2]
 rw [e] at hr;refine ⟨A, c, zs.map fun z => UInt8.ofNat z.toNat, by simp [hz], by simpa [hz] using hn, hc, fun h => ?_, hr⟩;obtain ⟨h1, h2⟩ := hA h
 exact ⟨by
  have : zs = [] := List.eq_nil_of_length_eq_zero (by omega)
  simp [this], h2⟩
def MadeB (w : World) (l : List UInt8) (e : Ending) (w' : World) : Prop :=
 ∃ v, e = .returned v ∧ w'.ownsRow w.heap.size 5 1 v l.length (bc l) ∧ Below w.heap.size w w'
section
variable {P : Program} (w : World)
theorem run_append_rd (base : Nat) (t ty e : TypeId) (i : TypeInfo) (z : Value) (bytes : Nat) (ht : P.underlying t = some (.slice e)) (hi : P.info? e = some i) (hz : i.zero = some z)
 (hsize : i.size = 1) (hby : i.bytes = bytes) (hzs : z.cells.size = 1)
 (v : Value) (n : Nat) (xs : List Value) (hown : w.ownsRow base e 1 v n xs)
 (B : Nat) (A : Option Addr) (m c : Nat) (news : List Value) (hm : news.length = m) (hA : A = none → c = 0) (hr : Rd w B A news) (h1 : ∀ u ∈ news, u.oneCell' = true)
 (h63 : n + m ≤ maxLen) (hbytes : (n + m) * bytes ≤ 140737488355328) (hbase : base ≤ w.heap.size) :
 ∃ v' w', (Builtin.append_ #[t, t] ty #[v, .slice A m c]).run P w = .ok v' w' ∧ w'.ownsRow base e 1 v' (n + m) (xs ++ news) ∧ w.grownBy w' v.ownBlock := by
 rcases A with _ | ad
 ·have hn : news = [] := by
   cases news with
   | nil => rfl
   | cons x l => obtain ⟨b, off, h, _⟩ := hr 0 x rfl; cases h
  subst hn;simp at hm;subst hm;obtain rfl := hA rfl;exact ⟨v, w, run_append_owned_none w base t ty e i 1 ht hi v n xs hown, by simpa using hown, World.grownBy.refl w _⟩
 ·have hcells : ∀ j u, news[j]? = some u → w.cell? (ad.add j) = some u := by
   intro j u hu;obtain ⟨b, off, h, _, hc⟩ := hr j u hu;injection h with h;subst h;rw [Addr.add_lit]; exact hc
  obtain ⟨v', w', hrun, h2, h3, _⟩ := run_append_own (P := P) w base t ty e i z 1 bytes ht hi hz hsize hby hzs (by omega) v n xs hown ad m c news (by omega) hcells h1 h63 hbytes hbase;exact ⟨v', w', hrun, h2, h3⟩
theorem wpList_append_rd {ops : Array Oper} {rest : List Oper} {o : Oper} {a : Act} {Q : Exit → Act → World → Prop} (hgd : o.guard = none) (s x : Operand) (t : TypeId)
 (ho : o.op = .call { callee := .builtin .append, args := #[s, x], argTypes := #[t, t] })
 (base : Nat) (e : TypeId) (i : TypeInfo) (z : Value) (bytes : Nat) (ht : P.underlying t = some (.slice e)) (hi : P.info? e = some i) (hz : i.zero = some z)
 (hsize : i.size = 1) (hby : i.bytes = bytes) (hzs : z.cells.size = 1)
 (v : Value) (n : Nat) (xs : List Value) (hs : a.eval s = v) (hown : w.ownsRow base e 1 v n xs)
 (B : Nat) (A : Option Addr) (m c : Nat) (news : List Value) (hx : a.eval x = .slice A m c) (hm : news.length = m) (hA : A = none → c = 0) (hr : Rd w B A news) (h1 : ∀ u ∈ news, u.oneCell' = true)
 (h63 : n + m ≤ maxLen) (hbytes : (n + m) * bytes ≤ 140737488355328) (hbase : base ≤ w.heap.size)
 (h : ∀ v' w', w'.ownsRow base e 1 v' (n + m) (xs ++ news) → w.grownBy w' v.ownBlock → wpList P ops Q rest (a.put o.dst v') w') : wpList P ops Q (o :: rest) a w := by
 refine wpList_plain hgd fun K hK => ?_;obtain ⟨v', w', hrun, h2, h3⟩ := run_append_rd (P := P) w base t o.type e i z bytes ht hi hz hsize hby hzs v n xs hown B A m c news hm hA hr h1 h63 hbytes hbase;unfold Oper.wp execOp;simp only [ho, resolve, invoke, builtin, Sem.run_bind, Sem.run_pure, Result.andThen_ok, List.map_toArray, List.map_cons, List.map_nil, hs, hx, hrun];exact hK _ _ (h v' w' h2 h3)
end
theorem appB {w wr w2 : World} {v v' : Value} {cur : List UInt8} {b : UInt8} {o : Obj} (hown : wr.ownsRow w.heap.size 5 1 v cur.length (bc cur)) (hbel : Below w.heap.size w wr)
 (hown' : w2.ownsRow w.heap.size 5 1 v' (cur.length + 1) (bc cur ++ [.int .u8 (b.toNat : Int)])) (hgrow : (wr.alloc o).grownBy w2 v.ownBlock) :
 w2.ownsRow w.heap.size 5 1 v' (cur ++ [b]).length (bc (cur ++ [b])) ∧ Below w.heap.size w w2 := by
 refine ⟨?_, (hbel.alloc hbel.size _).grown hgrow (by have := hbel.size; simp; omega) (fun g hg => (hown.lt g hg).1)⟩;rw [bc_app]; simpa [bc] using hown'
theorem appM {w wr w2 : World} {v v' : Value} {cur l : List UInt8} {n : Nat} (hown : wr.ownsRow w.heap.size 5 1 v cur.length (bc cur)) (hbel : Below w.heap.size w wr)
 (hown' : w2.ownsRow w.heap.size 5 1 v' n (bc cur ++ bc l)) (hn : n = cur.length + l.length) (hgrow : wr.grownBy w2 v.ownBlock) :
 w2.ownsRow w.heap.size 5 1 v' (cur ++ l).length (bc (cur ++ l)) ∧ Below w.heap.size w w2 := by
 refine ⟨?_, hbel.grown hgrow hbel.size (fun g hg => (hown.lt g hg).1)⟩;rw [bc_app, List.length_append, ← hn]; exact hown'
theorem run_string_rd {P : Program} (w : World) (src e dst : TypeId) (hs : P.underlying src = some (.slice e)) (he : P.underlying e = some (.int .u8)) (hd : P.underlying dst = some .string)
 (B : Nat) (A : Option Addr) (c : Nat) (l : List UInt8) (hA : Rd w B A (bc l)) : (convert src dst (.slice A l.length c)).run P w = .ok (.string ⟨l.toArray⟩) w := by
 cases l with
 | nil =>
   cases A with
   | none => exact run_convert_bytes_nil w src e hs he _ _ dst hd
   | some a =>
     rw [run_convert_bytes_string w src dst e _ _ c hs he hd];have := run_bytesToString (P := P) w a 0 c [] (by simp [loadCells, loadCellsFrom]);simp only [List.foldl_nil] at this;exact this
 | cons b bs =>
   obtain ⟨blk, off, rfl, _, _⟩ := hA 0 _ rfl
   have h := run_convert_bytes_arg (P := P) w src e hs he blk off (b :: bs).length c ((b :: bs).map fun x => (x.toNat : Int)) (by simp) (fun i hi => by
    obtain ⟨b2, off2, h2, _, hc⟩ := hA i (.int .u8 (((b :: bs)[i]'hi).toNat : Int)) (by unfold bc; rw [List.getElem?_map, List.getElem?_eq_getElem hi]; rfl);injection h2 with h2;injection h2 with h3 h4;subst h3; subst h4;rw [hc]
    rw [List.getD_eq_getElem?_getD, List.getElem?_map, List.getElem?_eq_getElem hi]; rfl) dst hd
   rw [h]
   congr 2
   have e : ∀ l : List UInt8, strOfNums (l.map fun x => (x.toNat : Int)) = ⟨l.toArray⟩ := by
    intro l;unfold strOfNums
    congr 1
    simp [List.map_map, Function.comp_def]
   exact e _
end Go.Proofs.YthclniimhpmeoaaGreatDoor
namespace Go.Proofs.YthclniimhpmeoaaGreatDoor.C
def be (x : Nat) : Nat → List UInt8
 | 0 => []
 | k + 1 => UInt8.ofNat (x / 256 ^ k) :: be x k
theorem be_len (x k : Nat) : (be x k).length = k := by
 induction k with
 | zero => rfl
 | succ k ih => simp [be, ih]
def val (a : Nat) (l : List UInt8) : Nat := l.foldl (fun a b => a * 256 + b.toNat) a
theorem val_app (a : Nat) (l m : List UInt8) : val a (l ++ m) = val (val a l) m := by simp [val]
theorem val_shift (a : Nat) (l : List UInt8) : val a l = a * 256 ^ l.length + val 0 l := by
 induction l generalizing a with
 | nil => simp [val]
 | cons b l ih =>
   show val (a * 256 + b.toNat) l = a * 256 ^ (l.length + 1) + val (0 * 256 + b.toNat) l;rw [ih, ih (0 * 256 + b.toNat), Nat.pow_succ];simp only [Nat.zero_mul, Nat.zero_add, Nat.add_mul, Nat.mul_assoc];rw [Nat.mul_comm (256 ^ l.length) 256];omega
theorem val_lt (l : List UInt8) : val 0 l < 256 ^ l.length := by
 induction l with
 | nil => simp [val]
 | cons b l ih =>
   show val (0 * 256 + b.toNat) l < 256 ^ (l.length + 1);rw [val_shift];have := b.toNat_lt;have h1 : (b.toNat + 1) * 256 ^ l.length ≤ 256 * 256 ^ l.length := Nat.mul_le_mul_right _ (by omega);rw [Nat.pow_succ, Nat.mul_comm (256 ^ l.length) 256];simp only [Nat.zero_mul, Nat.zero_add];rw [Nat.add_mul] at h1;omega
theorem val_be (x k : Nat) : val 0 (be x k) = x % 256 ^ k := by
 induction k with
 | zero => simp [val, be, Nat.mod_one]
 | succ k ih =>
   show val (0 * 256 + (UInt8.ofNat (x / 256 ^ k)).toNat) (be x k) = _;rw [val_shift, ih, be_len, UInt8.toNat_ofNat'];simp only [Nat.zero_mul, Nat.zero_add];rw [show (2 : Nat) ^ 8 = 256 from rfl, Nat.pow_succ, Nat.mod_mul, Nat.mul_comm (x / 256 ^ k % 256), Nat.add_comm]
def clamp8 (n : Int) : Nat := (min (max n 0) 8).toNat
theorem clamp8_le (n : Int) : clamp8 n ≤ 8 := by unfold clamp8; omega
def put (l : List UInt8) (x : Nat) (n : Int) : List UInt8 := l ++ be x (clamp8 n)
def putText (l : List UInt8) (s : List UInt8) : List UInt8 := l ++ be (min s.length 65535) 2 ++ s.take (min s.length 65535)
end Go.Proofs.YthclniimhpmeoaaGreatDoor.C
namespace Go.Proofs.YthclniimhpmeoaaGreatDoor
open Go.RowKit
theorem clone_any (A : Option Addr) (c : Nat) (l : List UInt8) (w : World) (B : Nat) (hl : l.length ≤ 1099511627776) (hA : A = none → l = [] ∧ c = 0) (hr : Rd w B A (bc l)) (hB : B ≤ w.heap.size) :
 Calls Tryz.prog 66 #[.slice A l.length c] w (MadeB w l) := by
 obtain ⟨i0, hi, hz0, hz1, hz2⟩ := info_parts info_u8;have q : ∀ (w : World) (a : Option Addr) (n c n' c' : Nat), (binOp .eql 34 (.slice a n c) (.slice none n' c')).run Tryz.prog w = .ok (.bool a.isNone) w := fun w a n c n' c' => Lib.run_eql_slice_nil w _ _ a n c n' c' Tryz.underlying34
 cases A with
 | none =>
   obtain ⟨rfl, rfl⟩ := hA rfl
   go_enter Tryz.func66, Tryz.ntmps66
   go_wp2
   go_ret
   exact ⟨_, rfl, World.ownsRow_nil _ _ _ _, Below.refl _ _⟩
 | some ad =>
   obtain ⟨n, hn⟩ : ∃ n, n = l.length := ⟨_, rfl⟩;have HN := Lib.hid hn;rw [← hn] at hl ⊢;clear hn
   go_enter Tryz.func66, Tryz.ntmps66
   go_wp2_with (first
    | (at_builtin; refine wpList_append_rd _ rfl _ _ 34 rfl w.heap.size 5 i0 (.int .u8 0) 1 Tryz.underlying34 hi hz0 hz1 hz2 rfl _ _ _ rfl (World.ownsRow_made w #[] 0 (Nat.le_refl _) (Nat.zero_le _) rfl) B (some ad) n c (bc l) rfl ?c1 ?c2 ?c3 ?c4 ?c5 ?c6 ?c7 ?_))
   case c1 => rw [bc_len, HN.out]
   case c2 => intro h; cases h
   case c3 => exact hr.alloc hB _
   case c4 => exact bc_one l
   case c5 => unfold maxLen; omega
   case c6 => omega
   case c7 => simp
   intro v' w1 hown hgrow
   have R : w1.ownsRow w.heap.size 5 1 v' l.length (bc l) ∧ Below w.heap.size w w1 := by
    refine ⟨by rw [← HN.out]; simpa using hown, ((Below.refl _ w).alloc (Nat.le_refl _) _).grown hgrow (by simp) (by intro k hk; simp [Value.ownBlock] at hk; omega)⟩
   clear hown hgrow
   go_wp2
   go_ret
   exact ⟨_, rfl, R.1, R.2⟩
theorem byte_at (x j : Nat) : ((x : Int) / 2 ^ (8 * j) % 256) = ((UInt8.ofNat (x / 256 ^ j)).toNat : Int) := by
 rw [UInt8.toNat_ofNat', show (256 : Nat) = 2 ^ 8 from rfl, ← Nat.pow_mul];simp
theorem put_any (A : Option Addr) (c : Nat) (l : List UInt8) (x : Nat) (n : Int) (w : World) (B : Nat) (hl : l.length ≤ 549755813888) (hA : A = none → l = [] ∧ c = 0) (hr : Rd w B A (bc l)) (hB : B ≤ w.heap.size) (hx : x < 18446744073709551616) :
 Calls Tryz.prog 32 #[.slice A l.length c, .int .u64 (x : Int), .int .i64 n] w (MadeB w (C.put l x n)) := by
 obtain ⟨i0, hi, hz0, hz1, hz2⟩ := info_parts info_u8;have hk8 := C.clamp8_le n;obtain ⟨k, hk⟩ : ∃ k, k = C.clamp8 n := ⟨_, rfl⟩;(have e1 : ((if 8 < (if n < 0 then 0 else n) then (8 : Int) else (if n < 0 then 0 else n)) : Int) = (k : Int) := by rw [hk]; unfold C.clamp8; split <;> split <;> omega);(have HP : Hid (C.put l x n = l ++ C.be x k) := by show _ = _; rw [hk]; rfl);rw [← hk] at hk8;clear hk;rw [HP.out]
 go_enter Tryz.func32, Tryz.ntmps32
 go_wp2_with fail
 refine (clone_any A c l w B (by omega) hA hr hB).mono ?_;rintro e w1 ⟨v, rfl, hown, hbel⟩
 go_wp2_with fail
 all_goals
  clear e1
  go_loopw [0, 7] (fun v i wr => ∃ (j : Nat) (cur : List UInt8), j ≤ k ∧ i = .int .i64 ((j : Int) - 1) ∧ wr.ownsRow w.heap.size 5 1 v cur.length (bc cur) ∧ Hid (cur ++ C.be x j = l ++ C.be x k) ∧ cur.length ≤ l.length + 8 ∧ Below w.heap.size w wr) (fun _ i _ => (intOf i + 1).toNat)
  case atStart => exact ⟨k, l, Nat.le_refl _, rfl, hown, rfl, by omega, hbel⟩
  case round =>
   obtain ⟨j, cur, hj, rfl, hown, HC, hcl, hbel⟩ := hrel
   cases j with
   | zero =>
     (have hfin : cur = l ++ C.be x k := by have := HC.out; simpa [C.be] using this);subst hfin
     go_wp2_with fail
     go_ret
     exact ⟨_, rfl, hown, hbel⟩
   | succ j =>
     (have hj0 : (0 : Int) ≤ (j : Int) := by omega);(have ej : ((j + 1 : Nat) : Int) - 1 = (j : Int) := by omega);rw [ej];clear ej
     go_wp2_with (at_builtin; refine wpList_append_own _ rfl _ _ 34 rfl w.heap.size 5 i0 (.int .u8 0) 1 1 Tryz.underlying34 hi hz0 hz1 hz2 rfl (by decide) _ _ _ rfl (hown.alloc _) ⟨wr.heap.size, 0, none⟩ 1 1 [.int .u8 ((x : Int) / 2 ^ (8 * j) % 256)] rfl rfl ?c1 ?c2 ?c3 ?c4 ?c5 ?_)
     case c1 => exact oneAt _ _ _
     case c2 => intro u hu; simp at hu; subst hu; rfl
     case c3 => unfold maxLen; omega
     case c4 => omega
     case c5 => have := hbel.size; simp; omega
     intro v' w2 hown' hgrow _;rw [byte_at] at hown' hgrow;have R := appB hown hbel hown' hgrow
     have HC2 : Hid ((cur ++ [UInt8.ofNat (x / 256 ^ j)]) ++ C.be x j = l ++ C.be x k) := by
      show _ = _;have := HC.out;rw [C.be] at this;rw [← this]; simp
     have hcl2 : (cur ++ [UInt8.ofNat (x / 256 ^ j)]).length ≤ l.length + 8 := by
      have := congrArg List.length HC2.out;simp only [List.length_append, C.be_len, List.length_cons, List.length_nil] at this ⊢;omega
     clear hown' hgrow hown hbel
     go_wp2
     go_roundw
     case rel => exact ⟨j, _, by omega, by go_num, R.1, HC2, hcl2, R.2⟩
     case measure => simp [intOf]
theorem rput_any (A : Option Addr) (c : Nat) (l : List UInt8) (x : Nat) (n : Int) (w : World) (B : Nat) (hl : l.length ≤ 549755813888) (hA : A = none → l = [] ∧ c = 0) (hr : Rd w B A (bc l)) (hB : B ≤ w.heap.size) (hx : x < 18446744073709551616) (hn1 : -1000 ≤ n) (hn2 : n ≤ 1000) :
 Calls Tryz.prog 36 #[.slice A l.length c, .int .u64 (x : Int), .int .i64 n] w (MadeB w (C.put l x n)) := by
 obtain ⟨i0, hi, hz0, hz1, hz2⟩ := info_parts info_u8;obtain ⟨m, hm⟩ : ∃ m, m = l.length := ⟨_, rfl⟩;have HM := Lib.hid hm;rw [← hm] at hl ⊢;clear hm;have hk8 := C.clamp8_le n;(have hkn : ∀ i : Nat, i < 8 → ((8 - n ≤ (i : Int)) ↔ 8 - i ≤ C.clamp8 n) := by intro i hi; unfold C.clamp8; omega);obtain ⟨k, hk⟩ : ∃ k, k = C.clamp8 n := ⟨_, rfl⟩;(have HP : Hid (C.put l x n = l ++ C.be x k) := by show _ = _; rw [hk]; rfl);rw [← hk] at hk8 hkn;clear hk;rw [HP.out]
 go_enter Tryz.func36, Tryz.ntmps36
 go_wp2_with (at_builtin; refine wpList_append_rd _ rfl _ _ 34 rfl w.heap.size 5 i0 (.int .u8 0) 1 Tryz.underlying34 hi hz0 hz1 hz2 rfl _ _ _ rfl (World.ownsRow_nil _ _ _ _) B A m c (bc l) rfl ?a1 ?a2 hr (bc_one l) ?a3 ?a4 ?a5 ?_)
 case a1 => rw [bc_len, HM.out]
 case a2 => exact fun h => (hA h).2
 case a3 => unfold maxLen; omega
 case a4 => omega
 case a5 => exact Nat.le_refl _
 intro v w1 hown hgrow;(have hown0 : w1.ownsRow w.heap.size 5 1 v l.length (bc l) := by rw [← HM.out]; simpa using hown);have hbel0 : Below w.heap.size w w1 := (Below.refl _ w).grown hgrow (Nat.le_refl _) (by intro k hk; simp [Value.ownBlock] at hk);clear hown hgrow;(have hlm : l.length ≤ 549755813888 := by rw [← HM.out]; exact hl)
 go_wp2_with fail
 go_loopw [7, 8] (fun v i wr => ∃ (j : Nat) (cur : List UInt8), j ≤ 8 ∧ i = .int .i64 (j : Int) ∧ wr.ownsRow w.heap.size 5 1 v cur.length (bc cur) ∧ Hid (cur ++ C.be x (min k (8 - j)) = l ++ C.be x k) ∧ cur.length ≤ l.length + 8 ∧ Below w.heap.size w wr) (fun _ i _ => 8 - (intOf i).toNat)
 case atStart => exact ⟨0, l, by omega, rfl, hown0, by show _ = _; rw [show min k (8 - 0) = k from by omega], by omega, hbel0⟩
 case round =>
  obtain ⟨j, cur, hj, rfl, hown, HC, hcl, hbel⟩ := hrel
  by_cases hj8 : j < 8
  ·have hjk := hkn j hj8
   by_cases hput : 8 - n ≤ (j : Int)
   ·have hle : 8 - j ≤ k := hjk.1 hput;obtain ⟨q, hq⟩ : ∃ q, q = 7 - j := ⟨_, rfl⟩;(have ej : (7 : Int) - (j : Int) = (q : Int) := by omega);(have hq7 : q ≤ 7 := by omega);(have e1 : min k (8 - j) = q + 1 := by omega);(have e2 : min k (8 - (j + 1)) = q := by omega);have E2 := Lib.hid e2;(have HC' : Hid (cur ++ C.be x (q + 1) = l ++ C.be x k) := by show _ = _; rw [← e1]; exact HC.out);clear HC e1 e2 hjk hle hkn hq
    go_wp2_with (at_builtin; refine wpList_append_own _ rfl _ _ 34 rfl w.heap.size 5 i0 (.int .u8 0) 1 1 Tryz.underlying34 hi hz0 hz1 hz2 rfl (by decide) _ _ _ rfl (hown.alloc _) ⟨wr.heap.size, 0, none⟩ 1 1 [.int .u8 ((x : Int) / 2 ^ (8 * q) % 256)] rfl rfl ?c1 ?c2 ?c3 ?c4 ?c5 ?_)
    case c1 => exact oneAt _ _ _
    case c2 => intro u hu; simp at hu; subst hu; rfl
    case c3 => unfold maxLen; omega
    case c4 => omega
    case c5 => have := hbel.size; simp; omega
    intro v' w2 hown' hgrow _;rw [byte_at] at hown' hgrow;have R := appB hown hbel hown' hgrow
    have HC2 : Hid ((cur ++ [UInt8.ofNat (x / 256 ^ q)]) ++ C.be x (min k (8 - (j + 1))) = l ++ C.be x k) := by
     show _ = _;have := HC'.out;rw [C.be] at this;rw [E2.out, ← this]; simp
    have hcl2 : (cur ++ [UInt8.ofNat (x / 256 ^ q)]).length ≤ l.length + 8 := by
     have := congrArg List.length HC2.out;simp only [List.length_append, C.be_len, List.length_cons, List.length_nil] at this ⊢;omega
    clear hown' hgrow hown hbel
    go_wp2
    go_roundw
    case rel => exact ⟨j + 1, _, by omega, by go_num, R.1, HC2, hcl2, R.2⟩
    case measure => simp [intOf]; omega
   ·have hle : ¬ 8 - j ≤ k := fun h => hput (hjk.2 h)
    have HC2 : Hid (cur ++ C.be x (min k (8 - (j + 1))) = l ++ C.be x k) := by
     show _ = _;have := HC.out;rw [show min k (8 - (j + 1)) = min k (8 - j) from by omega]; exact this
    clear HC hjk hle hkn
    go_wp2
    go_roundw
    case rel => exact ⟨j + 1, _, by omega, by go_num, hown, HC2, hcl, hbel⟩
    case measure => simp [intOf]; omega
  ·have hfin : cur = l ++ C.be x k := by
    have := HC.out;rw [show min k (8 - j) = 0 from by omega] at this
    simpa [C.be] using this
   subst hfin
   go_wp2_with fail
   go_ret
   exact ⟨_, rfl, hown, hbel⟩
theorem put_two (l : List UInt8) (x : Nat) : C.put l x 2 = l ++ C.be x 2 := rfl
theorem put_len (l : List UInt8) (x : Nat) : (C.put l x 2).length = l.length + 2 := by rw [put_two]; simp [C.be_len]
theorem extract_list (s : ByteArray) (k : Nat) : (s.extract 0 k).data.toList = s.data.toList.take k := by
 rw [ByteArray.data_extract, Array.toList_extract]; simp
theorem list_size (s : ByteArray) : s.data.toList.length = s.size := by rw [Array.length_toList]; rfl
theorem putText_long (l : List UInt8) (s : ByteArray) (h : 65535 < s.size) : C.put l 65535 2 ++ (s.extract 0 65535).data.toList = C.putText l s.data.toList := by
 have : min s.data.toList.length 65535 = 65535 := by
  (have : s.data.toList.length = s.size := by rw [Array.length_toList]; rfl);omega
 rw [C.putText, this, put_two, extract_list]
theorem putText_short (l : List UInt8) (s : ByteArray) (h : ¬ 65535 < s.size) : C.put l s.size 2 ++ s.data.toList = C.putText l s.data.toList := by
 (have h1 : s.data.toList.length = s.size := by rw [Array.length_toList]; rfl);(have : min s.data.toList.length 65535 = s.size := by omega);rw [C.putText, this, put_two, List.take_of_length_le (by omega)]
theorem puttext_any (A : Option Addr) (c : Nat) (l : List UInt8) (s : ByteArray) (w : World) (B : Nat) (hl : l.length ≤ 274877906944) (hA : A = none → l = [] ∧ c = 0) (hr : Rd w B A (bc l)) (hB : B ≤ w.heap.size) (hs : s.size ≤ 9223372036854775807) :
 Calls Tryz.prog 111 #[.slice A l.length c, .string s] w (MadeB w (C.putText l s.data.toList)) := by
 obtain ⟨i0, hi, hz0, hz1, hz2⟩ := info_parts info_u8
 by_cases hlong : 65535 < s.size
 ·(have em : min 65535 s.size = 65535 := by omega);have EM := Lib.hid em;(have hsz : (s.extract 0 65535).size = 65535 := by rw [ByteArray.size_extract]; omega);have HSZ := Lib.hid hsz;clear em hsz
  go_enter Tryz.func111, Tryz.ntmps111
  go_wp2_with fail
  rw [EM.out];refine (put_any A c l 65535 2 w B (by omega) hA hr hB (by omega)).mono ?_;rintro e w1 ⟨v, rfl, hown, hbel⟩
  go_wp2_with (at_builtin; refine Lib.wpList_append_own_string _ rfl _ _ 34 9 rfl w.heap.size 5 i0 Tryz.underlying34 Tryz.underlying9 hi hz0 hz1 hz2 _ _ _ rfl hown (s.extract 0 65535) rfl ?c1 ?c2 ?c3 ?_)
  case c1 => rw [HSZ.out, put_len]; unfold maxLen; omega
  case c2 => rw [HSZ.out, put_len]; omega
  case c3 => exact hbel.size
  intro v' w2 hown' hgrow _;rw [bc_str] at hown';have R := appM hown hbel hown' (by rw [extract_list, List.length_take, list_size]) hgrow;rw [putText_long l s hlong] at R;clear hown' hgrow hown hbel
  go_wp2
  go_ret
  exact ⟨_, rfl, R.1, R.2⟩
 ·go_enter Tryz.func111, Tryz.ntmps111
  go_wp2_with fail
  refine (put_any A c l s.size 2 w B (by omega) hA hr hB (by omega)).mono ?_;rintro e w1 ⟨v, rfl, hown, hbel⟩
  go_wp2_with (at_builtin; refine Lib.wpList_append_own_string _ rfl _ _ 34 9 rfl w.heap.size 5 i0 Tryz.underlying34 Tryz.underlying9 hi hz0 hz1 hz2 _ _ _ rfl hown s rfl ?c1 ?c2 ?c3 ?_)
  case c1 => rw [put_len]; unfold maxLen; omega
  case c2 => rw [put_len]; omega
  case c3 => exact hbel.size
  intro v' w2 hown' hgrow _;rw [bc_str] at hown';have R := appM hown hbel hown' (by rw [Array.length_toList]; rfl) hgrow;rw [putText_short l s hlong] at R;clear hown' hgrow hown hbel
  go_wp2
  go_ret
  exact ⟨_, rfl, R.1, R.2⟩
theorem rputtext_any (A : Option Addr) (c : Nat) (l : List UInt8) (s : ByteArray) (w : World) (B : Nat) (hl : l.length ≤ 274877906944) (hA : A = none → l = [] ∧ c = 0) (hr : Rd w B A (bc l)) (hB : B ≤ w.heap.size) (hs : s.size ≤ 9223372036854775807) :
 Calls Tryz.prog 116 #[.slice A l.length c, .string s] w (MadeB w (C.putText l s.data.toList)) := by
 obtain ⟨i0, hi, hz0, hz1, hz2⟩ := info_parts info_u8
 by_cases hlong : 65535 < s.size
 ·(have hsz : (s.extract 0 65535).size = 65535 := by rw [ByteArray.size_extract]; omega);have HSZ := Lib.hid hsz;clear hsz
  go_enter Tryz.func116, Tryz.ntmps116
  go_wp2_with fail
  refine (rput_any A c l 65535 2 w B (by omega) hA hr hB (by omega) (by omega) (by omega)).mono ?_;rintro e w1 ⟨v, rfl, hown, hbel⟩
  go_wp2_with (at_builtin; refine Lib.wpList_append_own_string _ rfl _ _ 34 9 rfl w.heap.size 5 i0 Tryz.underlying34 Tryz.underlying9 hi hz0 hz1 hz2 _ _ _ rfl hown (s.extract 0 65535) rfl ?c1 ?c2 ?c3 ?_)
  case c1 => rw [HSZ.out, put_len]; unfold maxLen; omega
  case c2 => rw [HSZ.out, put_len]; omega
  case c3 => exact hbel.size
  intro v' w2 hown' hgrow _;rw [bc_str] at hown';have R := appM hown hbel hown' (by rw [extract_list, List.length_take, list_size]) hgrow;rw [putText_long l s hlong] at R;clear hown' hgrow hown hbel
  go_wp2
  go_ret
  exact ⟨_, rfl, R.1, R.2⟩
 ·go_enter Tryz.func116, Tryz.ntmps116
  go_wp2_with fail
  refine (rput_any A c l s.size 2 w B (by omega) hA hr hB (by omega) (by omega) (by omega)).mono ?_;rintro e w1 ⟨v, rfl, hown, hbel⟩
  go_wp2_with (at_builtin; refine Lib.wpList_append_own_string _ rfl _ _ 34 9 rfl w.heap.size 5 i0 Tryz.underlying34 Tryz.underlying9 hi hz0 hz1 hz2 _ _ _ rfl hown s rfl ?c1 ?c2 ?c3 ?_)
  case c1 => rw [put_len]; unfold maxLen; omega
  case c2 => rw [put_len]; omega
  case c3 => exact hbel.size
  intro v' w2 hown' hgrow _;rw [bc_str] at hown';have R := appM hown hbel hown' (by rw [Array.length_toList]; rfl) hgrow;rw [putText_short l s hlong] at R;clear hown' hgrow hown hbel
  go_wp2
  go_ret
  exact ⟨_, rfl, R.1, R.2⟩
end Go.Proofs.YthclniimhpmeoaaGreatDoor
