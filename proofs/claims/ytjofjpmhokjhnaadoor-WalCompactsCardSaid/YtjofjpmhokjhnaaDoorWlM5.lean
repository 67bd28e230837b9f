/- Small laws on readers and worlds, for the walks of a seat that reaches layer 2. No condition. (Cut from CodeNew, CodeTakes and BallotIO: for a seat without those rows.) -/
import Derived.Test.YtjofjpmhokjhnaaDoorWlM4
import Derived.Deep.RegionHeld
import Derived.Test.YtjofjpmhokjhnaaDoorWlM1
import Derived.Lib.ValidLaws
import Derived.Lib.TrimUEq
import Derived.Laws.RangeString
import Derived.Laws.RangeAny
import Derived.Test.YtjofjpmhokjhnaaDoorWlM3
import Derived.Deep.RegionHeld3
import Derived.Deep.RegionWith
namespace Go.Proofs.YtjofjpmhokjhnaaDoor
set_option maxRecDepth 20000
set_option linter.unusedSimpArgs false
set_option linter.unusedVariables false
section
/-- a loop of at most N rounds more than k0; what the slots hold that nobody names is told by one letter u -/
theorem wp_loop_su {P : Program} {Q : Exit → Act → World → Prop} {a : Act} {w : World} {c : Code} (N : Nat) (St : Nat → (Nat → Value) → Act → World → Prop) (k0 : Nat) (hk : k0 ≤ N) (h0 : St k0 (fun i => a.tmps.getD i undef) a w)
    (round : ∀ k u a w, k ≤ N → St k u a w → c.wp P (Exit.then (fun a' w' => k < N ∧ St (k + 1) (fun i => a'.tmps.getD i undef) a' w') Q) a w) : (Code.loop c).wp P Q a w :=
  wp_loop_st N (fun k a w => St k (fun i => a.tmps.getD i undef) a w) k0 hk h0 fun k a w hk h => round k _ a w hk h
/-- what a region's end says of a panic does not hang on the slots -/
def PanicOk (Q : Exit → Act → World → Prop) : Prop := ∀ c a d v w, Q (.panic c) (Act.put a d v) w → Q (.panic c) a w
/-- whatever order is picked, S holds all along, and the end is Q -/
structure AnyS (P : Program) (ops : Array Oper) (Q : Exit → Act → World → Prop) (S : World → Prop) (n : Nat) (l : Array Bool) (a : Act) (w : World) : Prop where
  out : PanicOk Q → wpAnyH P .any ops Q S n l a w
/-- operation i comes up now, and whatever order is picked behind it -/
structure StepS (P : Program) (ops : Array Oper) (Q : Exit → Act → World → Prop) (S : World → Prop) (n : Nat) (l : Array Bool) (a : Act) (w : World) (i : Nat) : Prop where
  out : PanicOk Q → wpOp P ops Q i (fun a' w' => S w' ∧ wpAnyH P .any ops Q S n (l.setIfInBounds i true) a' w') a w
theorem okIntA {k : IntKind} {x v : Int} {m : Option (Result Next)} {w : World} (he : x = v) (h : m = some (.ok (.value (.int k x)) w)) : m = some (.ok (.value (.int k v)) w) := he ▸ h
theorem okIntP {k : IntKind} {x v : Int} {m : Result Next} {w : World} (he : x = v) (h : m = .ok (.value (.int k x)) w) : m = .ok (.value (.int k v)) w := he ▸ h
variable {P : Program} {ops : Array Oper} {Q : Exit → Act → World → Prop} {S : World → Prop} {n : Nat} {l l' : Array Bool} {a : Act} {w : World}
def runAt (P : Program) (ops : Array Oper) (a : Act) (w : World) (i : Nat) : Option (Result Next) := (ops[i]?).map fun o => (execOp a.eval o).run P w
def wantAt (ops : Array Oper) (a : Act) (i : Nat) : Option Bool := (ops[i]?).map fun o => Region.wanted o (yielded ops a.tmps)
def dstAt (ops : Array Oper) (i : Nat) : Option (Option Tmp) := (ops[i]?).map (·.dst)
def freeAt' (ops : Array Oper) (l : Array Bool) (i : Nat) : Bool := Region.noSelect ops && Region.free .any ops l i && (Region.ready .any ops l).contains i
theorem any_begin {id : Nat} (S : World → Prop) (n : Nat) (l : Array Bool) (hS : S w.drew) (hQ : PanicOk Q) (h : AnyS P ops Q S n l a w.drew) (hm : P.follows .mixedOrders = true := by kernel_rfl)
    (hn : ops.size = n := by kernel_rfl) (hl : Array.replicate n false = l := by kernel_rfl) : (Code.region id ops true).wp P Q a w :=
  wp_region_held_drew hm hS fun _ => by rw [hn, hl]; exact h.out hQ
theorem any_end (h : Q .normal a w) (hr : Region.ready .any ops l = [] := by kernel_rfl) : AnyS P ops Q S n l a w := ⟨fun _ => wpAnyH_done hr h n⟩
theorem any_take {o : Oper} {v : Value} {i : Nat} (hi : ops[i]? = some o) (hf : freeAt' ops l i = true) (hy : YieldsIf P ops S o v a) (hS : S w) (hl : l.setIfInBounds i true = l') (h : AnyS P ops Q S n l' (a.put o.dst v) w) : AnyS P ops Q S (n + 1) l a w := by
  unfold freeAt' at hf
  simp only [Bool.and_eq_true] at hf
  exact ⟨fun hQ => wpAnyH_take hi hf.1.1 hf.1.2 hf.2 (fun c _ w hq => hQ c _ _ _ w hq) hy hS (by rw [hl]; exact h.out hQ)⟩
/-- an operation that yields a value wherever S holds -/
theorem ha (i : Nat) (d : Option Tmp) (v : Value) (l' : Array Bool) (hv : ∀ w, S w → runAt P ops a w i = some (.ok (.value v) w)) (hS : S w) (h : AnyS P ops Q S n l' (a.put d v) w)
    (hf : freeAt' ops l i = true := by kernel_rfl) (hw : wantAt ops a i = some true := by kernel_rfl) (hd : dstAt ops i = some d := by kernel_rfl) (hl : l.setIfInBounds i true = l' := by kernel_rfl) : AnyS P ops Q S (n + 1) l a w := by
  cases ho : ops[i]? with
  | none => unfold dstAt at hd; rw [ho] at hd; cases hd
  | some o =>
    unfold dstAt at hd; unfold wantAt at hw; unfold runAt at hv
    rw [ho] at hd hw; simp only [ho] at hv
    have hd : o.dst = d := Option.some.inj hd
    have hw : Region.wanted o (yielded ops a.tmps) = true := Option.some.inj hw
    exact any_take ho hf (Or.inl ⟨hw, fun w hs => by have := hv w hs; injection this⟩) hS hl (by rw [hd]; exact h)
/-- a guard that says no -/
theorem hk_ (i : Nat) (d : Option Tmp) (l' : Array Bool) (hS : S w) (h : AnyS P ops Q S n l' (a.put d undef) w)
    (hf : freeAt' ops l i = true := by kernel_rfl) (hw : wantAt ops a i = some false := by kernel_rfl) (hd : dstAt ops i = some d := by kernel_rfl) (hl : l.setIfInBounds i true = l' := by kernel_rfl) : AnyS P ops Q S (n + 1) l a w := by
  cases ho : ops[i]? with
  | none => unfold dstAt at hd; rw [ho] at hd; cases hd
  | some o =>
    unfold dstAt at hd; unfold wantAt at hw
    rw [ho] at hd hw
    have hd : o.dst = d := Option.some.inj hd
    have hw : Region.wanted o (yielded ops a.tmps) = false := Option.some.inj hw
    exact any_take ho hf (Or.inr ⟨hw, rfl⟩) hS hl (by rw [hd]; exact h)
def ldAt (ops : Array Oper) (a : Act) (i : Nat) : Option (TypeId × Value) := (ops[i]?).bind fun o => ldOf a o.op
theorem ldAt_eq {i : Nat} {ty : TypeId} {v : Value} (h : ldAt ops a i = some (ty, v)) : ∃ o x, ops[i]? = some o ∧ o.op = .load ty x ∧ a.eval x = v := by
  unfold ldAt at h
  cases ho : ops[i]? with
  | none => rw [ho] at h; cases h
  | some o => rw [ho] at h; obtain ⟨x, h1, h2⟩ := ldOf_eq (show ldOf a o.op = some (ty, v) from h); exact ⟨o, x, rfl, h1, h2⟩
/-- a cell is read -/
theorem hl_ (i : Nat) (d : Option Tmp) (v : Value) (p : Addr) (l' : Array Bool) (hc : ∀ w, S w → w.cell? p = some v) {ty : TypeId} {dd : TypeDesc} (hu : P.underlying ty = some dd) (hS : S w) (h : AnyS P ops Q S n l' (a.put d v) w)
    (hld : ldAt ops a i = some (ty, .pointer (some p)) := by kernel_rfl) (hdd : dd.isRow = false := by rfl)
    (hf : freeAt' ops l i = true := by kernel_rfl) (hw : wantAt ops a i = some true := by kernel_rfl) (hd : dstAt ops i = some d := by kernel_rfl) (hl : l.setIfInBounds i true = l' := by kernel_rfl) : AnyS P ops Q S (n + 1) l a w := by
  obtain ⟨o, x, ho, h1, h2⟩ := ldAt_eq hld
  refine ha i d v l' (fun w hs => ?_) hS h hf hw hd hl
  unfold runAt; rw [ho]
  exact congrArg some (run_load1 ty x h1 p h2 v dd (hc w hs) hu hdd)
theorem run_loadG {o : Oper} (ty : TypeId) (x : Operand) (ho : o.op = .load ty x) (b f : Nat) (hx : a.eval x = .pointer (some ⟨b, f, none⟩)) (cs : List Value) (dd : TypeDesc) (hc : w.rangeAt b f cs) (hu : P.underlying ty = some dd) (hd : dd.isRow = true)
    (hi : (P.info? ty).map (·.size) = some cs.length) : (execOp a.eval o).run P w = .ok (.value (.agg cs.toArray)) w := by
  unfold execOp
  simp only [ho, hx, Instr.loadAt, Instr.sureAddr, Sem.run_bind, Sem.run_pure, Result.andThen_ok, run_loadVar_mid w b f ty cs dd hc hu hd hi]
/-- a row is read -/
theorem hg_ (i : Nat) (d : Option Tmp) (b f : Nat) (cs : List Value) (l' : Array Bool) (hc : ∀ w, S w → w.rangeAt b f cs) {ty : TypeId} {dd : TypeDesc} (hu : P.underlying ty = some dd) (hS : S w) (h : AnyS P ops Q S n l' (a.put d (.agg cs.toArray)) w)
    (hld : ldAt ops a i = some (ty, .pointer (some ⟨b, f, none⟩)) := by kernel_rfl) (hdd : dd.isRow = true := by rfl) (hi : (P.info? ty).map (·.size) = some cs.length := by kernel_rfl)
    (hf : freeAt' ops l i = true := by kernel_rfl) (hw : wantAt ops a i = some true := by kernel_rfl) (hd : dstAt ops i = some d := by kernel_rfl) (hl : l.setIfInBounds i true = l' := by kernel_rfl) : AnyS P ops Q S (n + 1) l a w := by
  obtain ⟨o, x, ho, h1, h2⟩ := ldAt_eq hld
  refine ha i d _ l' (fun w hs => ?_) hS h hf hw hd hl
  unfold runAt; rw [ho]
  exact congrArg some (run_loadG ty x h1 b f h2 cs dd (hc w hs) hu hdd hi)
theorem any1 (i : Nat) (h : StepS P ops Q S n l a w i) (hr : Region.ready .any ops l = [i] := by kernel_rfl) : AnyS P ops Q S (n + 1) l a w :=
  ⟨fun hQ => wpAnyH_all hr (by simp) fun j hj => by rw [List.mem_singleton.1 hj]; exact h.out hQ⟩
theorem any2 (i j : Nat) (h : StepS P ops Q S n l a w i) (g : StepS P ops Q S n l a w j) (hr : Region.ready .any ops l = [i, j] := by kernel_rfl) : AnyS P ops Q S (n + 1) l a w :=
  ⟨fun hQ => wpAnyH_all hr (by simp) fun k hk => by
    rcases List.mem_cons.1 hk with rfl | hk
    · exact h.out hQ
    · rw [List.mem_singleton.1 hk]; exact g.out hQ⟩
/-- an operation by its own law -/
theorem st_o {i : Nat} {o : Oper} (ho : ops[i]? = some o) (hw : Region.wanted o (yielded ops a.tmps) = true) (hl : l.setIfInBounds i true = l')
    (h : ∀ K : Act → World → Prop, (∀ v w', S w' → AnyS P ops Q S n l' (a.put o.dst v) w' → K (a.put o.dst v) w') → Oper.wp P o a w K Q) : StepS P ops Q S n l a w i :=
  ⟨fun hQ => by
    unfold wpOp
    simp only [ho, hw, if_true]
    refine Or.inl (h _ fun v w' hs hA => ⟨hs, ?_⟩)
    rw [hl]; exact hA.out hQ⟩
/-- a value, and another world -/
theorem st_w (i : Nat) (d : Option Tmp) (v : Value) (w' : World) (l' : Array Bool) (h : S w' ∧ AnyS P ops Q S n l' (a.put d v) w') (hv : runAt P ops a w i = some (.ok (.value v) w') := by kernel_rfl)
    (hw : wantAt ops a i = some true := by kernel_rfl) (hd : dstAt ops i = some d := by kernel_rfl) (hl : l.setIfInBounds i true = l' := by kernel_rfl) : StepS P ops Q S n l a w i := by
  cases ho : ops[i]? with
  | none => unfold dstAt at hd; rw [ho] at hd; cases hd
  | some o =>
    unfold dstAt at hd; unfold wantAt at hw; unfold runAt at hv
    rw [ho] at hd hw hv
    have hd : o.dst = d := Option.some.inj hd
    have hw : Region.wanted o (yielded ops a.tmps) = true := Option.some.inj hw
    have hv : (execOp a.eval o).run P w = .ok (.value v) w' := Option.some.inj hv
    refine st_o ho hw hl fun K hK => ?_
    unfold Oper.wp; rw [hv, Oper.upon_value]
    exact hK _ _ h.1 (by rw [hd]; exact h.2)
/-- a store -/
theorem st_s (i : Nat) (w' : World) (l' : Array Bool) (hv : runAt P ops a w i = some (.ok .skip w')) (h : S w' ∧ AnyS P ops Q S n l' a w')
    (hw : wantAt ops a i = some true := by kernel_rfl) (hd : dstAt ops i = some none := by kernel_rfl) (hl : l.setIfInBounds i true = l' := by kernel_rfl) : StepS P ops Q S n l a w i := by
  cases ho : ops[i]? with
  | none => unfold dstAt at hd; rw [ho] at hd; cases hd
  | some o =>
    unfold dstAt at hd; unfold wantAt at hw; unfold runAt at hv
    rw [ho] at hd hw hv
    have hd : o.dst = none := Option.some.inj hd
    have hw : Region.wanted o (yielded ops a.tmps) = true := Option.some.inj hw
    have hv : (execOp a.eval o).run P w = .ok .skip w' := Option.some.inj hv
    refine st_o ho hw hl fun K hK => ?_
    unfold Oper.wp; rw [hv, Oper.upon_skip]
    have := hK undef w' h.1 (by rw [hd]; exact h.2)
    exact this
def stAt (ops : Array Oper) (a : Act) (i : Nat) : Option (TypeId × Value × Value) := (ops[i]?).bind fun o => match o.op with
  | .store ty x y => some (ty, a.eval x, a.eval y)
  | _ => none
/-- a store: the cells of the value are laid -/
theorem st_c (i : Nat) (ty : TypeId) (b f : Nat) (v : Value) (cs : List Value) (l' : Array Bool) (ht : w.there b f cs.length) (hcs : v.cells = cs.toArray) (hi : (P.info? ty).map (·.size) = some cs.length) (h1 : ∀ v ∈ cs, v.oneCell' = true)
    (h : S (w.setCells b f cs) ∧ AnyS P ops Q S n l' a (w.setCells b f cs)) (hs : stAt ops a i = some (ty, .pointer (some ⟨b, f, none⟩), v) := by kernel_rfl)
    (hw : wantAt ops a i = some true := by kernel_rfl) (hd : dstAt ops i = some none := by kernel_rfl) (hl : l.setIfInBounds i true = l' := by kernel_rfl) : StepS P ops Q S n l a w i := by
  refine st_s i _ l' ?_ h hw hd hl
  unfold stAt at hs
  unfold runAt
  cases ho : ops[i]? with
  | none => rw [ho] at hs; cases hs
  | some o =>
    rw [ho] at hs
    have hs : (match o.op with | .store ty x y => some (ty, a.eval x, a.eval y) | _ => none) = some (ty, .pointer (some ⟨b, f, none⟩), v) := hs
    refine congrArg some ?_
    cases hp : o.op with
    | store ty' x y =>
      rw [hp] at hs
      injection hs with hs; injection hs with e1 hs; injection hs with e2 e3
      subst e1
      unfold execOp
      simp only [hp, e2, e3, Instr.storeAt, Instr.sureAddr, Sem.run_bind, Sem.run_pure, Result.andThen_ok, run_storeC ty' b f v cs hcs ht hi h1]
    | _ => rw [hp] at hs; cases hs
/-- a cell, a row that is read where nothing else may come up -/
theorem st_l (i : Nat) (d : Option Tmp) (v : Value) (p : Addr) (l' : Array Bool) (hc : w.cell? p = some v) {ty : TypeId} {dd : TypeDesc} (hu : P.underlying ty = some dd) (hS : S w) (h : AnyS P ops Q S n l' (a.put d v) w)
    (hld : ldAt ops a i = some (ty, .pointer (some p)) := by kernel_rfl) (hdd : dd.isRow = false := by rfl)
    (hw : wantAt ops a i = some true := by kernel_rfl) (hd : dstAt ops i = some d := by kernel_rfl) (hl : l.setIfInBounds i true = l' := by kernel_rfl) : StepS P ops Q S n l a w i := by
  obtain ⟨o, x, ho, h1, h2⟩ := ldAt_eq hld
  refine st_w i d v w l' ⟨hS, h⟩ ?_ hw hd hl
  unfold runAt; rw [ho]
  exact congrArg some (run_load1 ty x h1 p h2 v dd hc hu hdd)
/-- a comparison's value -/
theorem runBin (v va vb : Value) (t : TypeId) {op : BinOp} {i : Nat} (hr : (binOp op t va vb).run P w = .ok v w) (hb : (ops[i]?).bind (fun o => binOf a o.op) = some (op, t, va, vb) := by kernel_rfl)
    (hg : (ops[i]?).map (fun o => (match o.op with | .binOp op t x y _ => (eqGuard op t x y (a.eval x) (a.eval y)).run P w | _ => .ok () w)) = some (.ok () w) := by kernel_rfl) : runAt P ops a w i = some (.ok (.value v) w) := by
  unfold runAt
  cases ho : ops[i]? with
  | none => rw [ho] at hb; cases hb
  | some o =>
    rw [ho] at hb hg
    have hb : binOf a o.op = some (op, t, va, vb) := hb
    have hg : (match o.op with | .binOp op t x y _ => (eqGuard op t x y (a.eval x) (a.eval y)).run P w | _ => .ok () w) = .ok () w := by injection hg
    cases hp : o.op with
    | binOp op' t' x y t2 =>
      rw [hp] at hb hg
      cases hb
      exact congrArg some (run_bin op t t2 x y _ _ v hp rfl rfl hg hr)
    | _ => rw [hp] at hb; cases hb
/-- a call -/
theorem st_f (i : Nat) (d : Option Tmp) (f : FuncId) (args : Array Value) (l' : Array Bool) {R : Ending → World → Prop} (hc : Calls P f args w R) (h : ∀ e w', R e w' → ∃ v, e = .returned v ∧ S w' ∧ AnyS P ops Q S n l' (a.put d v) w')
    (he : runAt P ops a w i = some (.ok (.enter f args) w) := by kernel_rfl) (hw : wantAt ops a i = some true := by kernel_rfl) (hd : dstAt ops i = some d := by kernel_rfl) (hl : l.setIfInBounds i true = l' := by kernel_rfl) : StepS P ops Q S n l a w i := by
  cases ho : ops[i]? with
  | none => unfold dstAt at hd; rw [ho] at hd; cases hd
  | some o =>
    unfold dstAt at hd; unfold wantAt at hw; unfold runAt at he
    rw [ho] at hd hw he
    have hd : o.dst = d := Option.some.inj hd
    have hw : Region.wanted o (yielded ops a.tmps) = true := Option.some.inj hw
    have he : (execOp a.eval o).run P w = .ok (.enter f args) w := Option.some.inj he
    refine st_o ho hw hl fun K hK => ?_
    unfold Oper.wp; rw [he, Oper.upon_enter]
    refine hc.mono fun e w' hR => ?_
    obtain ⟨v, rfl, hs, hv⟩ := h e w' hR
    exact hK _ _ hs (by rw [hd]; exact hv)
end
end Go.Proofs.YtjofjpmhokjhnaaDoor

namespace Go.Proofs.YtjofjpmhokjhnaaDoor
set_option maxRecDepth 20001
open Go.RowKit
set_option linter.unusedSimpArgs false
set_option linter.unusedVariables false

namespace V
def ex (b : Nat) : Nat := b / 4503599627370496 % 2048
def fr (b : Nat) : Nat := b % 4503599627370496
def mi (b : Nat) : Bool := decide (9223372036854775808 ≤ b)
def kind (b : Nat) : Int :=
  if ex b = 2047 ∧ ¬ fr b = 0 then 0
  else if ex b = 2047 ∧ mi b = true then 1
  else if ex b = 2047 then 6
  else if ex b = 0 ∧ fr b = 0 ∧ mi b = true then 3
  else if ex b = 0 ∧ fr b = 0 then 4
  else if mi b = true then 2
  else 5
end V

end Go.Proofs.YtjofjpmhokjhnaaDoor

namespace Go.Proofs.YtjofjpmhokjhnaaDoor
set_option maxRecDepth 20001
open Go.RowKit
set_option linter.unusedSimpArgs false
set_option linter.unusedVariables false

end Go.Proofs.YtjofjpmhokjhnaaDoor

namespace Go.Proofs.YtjofjpmhokjhnaaDoor
set_option maxRecDepth 20001
open Go.RowKit
set_option linter.unusedSimpArgs false
set_option linter.unusedVariables false

theorem heapA {w : World} {g : Nat} {o' : Obj} (h : w.heap[g]? = some o') (o : Obj) : (w.alloc o).heap[g]? = some o' := (Below.heap_alloc w o g (Array.getElem?_eq_some_iff.1 h).1).trans h
theorem heapB {w w' : World} {g : Nat} {o' : Obj} (h : w.heap[g]? = some o') (hb : Below w.heap.size w w') : w'.heap[g]? = some o' := (hb.block g (Array.getElem?_eq_some_iff.1 h).1).trans h
theorem heapS {w : World} {g : Nat} {o' : Obj} (h : w.heap[g]? = some o') {p : Addr} (hp : g ≠ p.block) (u : Value) : (w.setCell p u).heap[g]? = some o' := (Below.heap_setCell w p u g hp).trans h
theorem belowOfDrew {B : Nat} {w w' : World} (h : Below B w.drew w') : Below B w w' := ⟨h.os, h.tape, h.output, h.size, h.block⟩
theorem put_nil (x : Nat) (n : Int) (w : World) (hx : x < 18446744073709551616) :
    Calls Tryd.prog 61 #[.slice none 0 0, .int .u64 (x : Int), .int .i64 n] w (MadeB w (C.be x (C.clamp8 n))) := by
  have := put_any none 0 [] x n w w.heap.size (by simp) (fun _ => ⟨rfl, rfl⟩) Rd.nil (Nat.le_refl _) hx
  exact this
theorem new_any (A : Option Addr) (c : Nat) (l : List UInt8) (w : World) (B : Nat) (hc : l.length ≤ c) (hm : c ≤ maxLen) (hA : A = none → l = [] ∧ c = 0) (hr : Rd w B A (bc l)) (hB : B ≤ w.heap.size) :
    Calls Tryd.prog 87 #[.slice A l.length c] w fun e w' => e = .returned (.pointer (some ⟨w.heap.size, 0, none⟩)) ∧ RdrAt w' B w.heap.size (l, false) ∧ Below w.heap.size w w' := by
  obtain ⟨n, hn⟩ : ∃ n, n = l.length := ⟨_, rfl⟩
  have HN := Lib.hid hn
  rw [← hn]
  clear hn
  go_enter Tryd.func87, Tryd.ntmps87
  go_wp2
  go_ret
  refine ⟨rfl, ⟨A, c, ?_, hc, hm, hA, hr.alloc hB _, hB⟩, (Below.refl _ _).alloc (Nat.le_refl _) _⟩
  rw [← HN.out]
  exact heap_alloc_new w _
theorem RdrAt.other {w w' : World} {B g k : Nat} {s : C.St} (h : RdrAt w B g s) (hg : w.grownBy w' (some k)) (hk : k ≠ g) (hB : B ≤ k) : RdrAt w' B g s := by
  obtain ⟨A, c, hb, h1, h2, h3, hr, h4⟩ := h
  exact ⟨A, c, (hg.block g (ltAt hb) (fun e => hk (by injection e with e; exact e.symm))).trans hb, h1, h2, h3, hr.grownOther hg hB, h4⟩
theorem RdrAt.alloc {w : World} {B g : Nat} {s : C.St} (h : RdrAt w B g s) (o : Obj) : RdrAt (w.alloc o) B g s := by
  obtain ⟨A, c, hb, h1, h2, h3, hr, h4⟩ := h
  exact ⟨A, c, (Below.heap_alloc w o g (ltAt hb)).trans hb, h1, h2, h3, hr.alloc (by have := ltAt hb; omega) o, h4⟩
theorem take_lt (k : Nat) (s : C.St) (hk : k ≤ 8) : (C.take (k : Int) s).1 < 256 ^ k := by
  unfold C.take
  rw [if_neg (by omega)]
  have h1 := C.val_lt (C.some_ k s).1
  have h2 : (C.some_ k s).1.length ≤ k := by unfold C.some_; split <;> simp; omega
  have h3 : 256 ^ (C.some_ k s).1.length ≤ 256 ^ k := Nat.pow_le_pow_right (by omega) h2
  rw [Int.toNat_natCast]
  show C.val 0 (C.some_ k s).1 < _
  omega
theorem take9 (s : C.St) : C.take 9 s = (0, (s.1, true)) := by unfold C.take; simp
theorem heapG {w w' : World} {k g : Nat} {o : Obj} (h : w.heap[k]? = some o) (hg : w.grownBy w' (some g)) (hne : k ≠ g) : w'.heap[k]? = some o := (hg.block k (ltAt h) (fun e => hne (by injection e))).trans h
theorem grownTrans {a b c : World} {r : Option Nat} (h : a.grownBy b r) (k : b.grownBy c r) : a.grownBy c r :=
  ⟨k.os.trans h.os, k.tape.trans h.tape, k.output.trans h.output, Nat.le_trans h.size k.size, fun i hi hne => (k.block i (Nat.lt_of_lt_of_le hi h.size) hne).trans (h.block i hi hne)⟩
theorem grownSetNew {a b : World} {r : Option Nat} {g : Nat} (h : a.grownBy b r) (hb : a.heap.size ≤ g) (i : Nat) (u : Value) : a.grownBy (b.setCell ⟨g, i, none⟩ u) r :=
  have k := grownSet b g i u
  ⟨k.os.trans h.os, k.tape.trans h.tape, k.output.trans h.output, Nat.le_trans h.size k.size, fun j hj hne => (k.block j (Nat.lt_of_lt_of_le hj h.size) (fun e => by injection e with e; omega)).trans (h.block j hj hne)⟩
theorem grownAllocR {a b : World} {r : Option Nat} (h : a.grownBy b r) (o : Obj) : a.grownBy (b.alloc o) r := grownTrans h (World.grownBy_alloc b o r)
theorem grownBelow {a b c : World} {r : Option Nat} (h : a.grownBy b r) (k : Below b.heap.size b c) : a.grownBy c r :=
  ⟨k.os.trans h.os, k.tape.trans h.tape, k.output.trans h.output, Nat.le_trans h.size k.size, fun i hi hne => (k.block i (Nat.lt_of_lt_of_le hi h.size)).trans (h.block i hi hne)⟩
theorem RdrAt.below {w w' : World} {B g : Nat} {s : C.St} (h : RdrAt w B g s) (hb : Below w.heap.size w w') : RdrAt w' B g s := by
  obtain ⟨A, c, hb0, h1, h2, h3, hr, h4⟩ := h
  exact ⟨A, c, heapB hb0 hb, h1, h2, h3, hr.below (hb.mono (by have := ltAt hb0; omega)), h4⟩
theorem RdrAt.setNew {w : World} {B g k : Nat} {s : C.St} (h : RdrAt w B g s) (hk : k ≠ g) (hB : B ≤ k) (i : Nat) (u : Value) : RdrAt (w.setCell ⟨k, i, none⟩ u) B g s := h.other (grownSet w k i u) hk hB
end Go.Proofs.YtjofjpmhokjhnaaDoor
